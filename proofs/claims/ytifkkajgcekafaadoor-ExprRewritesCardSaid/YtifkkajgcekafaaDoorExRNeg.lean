/- The reference's negated. -/
import Derived.Test.YtifkkajgcekafaaDoorExRFold1
import Derived.Test.YtifkkajgcekafaaDoorExNegC
import Derived.Deep.DeepCutAuto
namespace Go.Proofs.YtifkkajgcekafaaDoor
set_option linter.unusedVariables false
open Go.RowKit
attribute [local go_sem ↓] Go.wp_at_zero Go.wp_at_succ

theorem rdual_calls (w : World) (op : Int) (hop : op = 4 ∨ op = 7 ∨ op = 10 ∨ op = 11 ∨ op = 13 ∨ op = 14) : Calls Tryd.prog 96 #[.int .i64 op] w (Post w fun _ r => r = .int .i64 (dualOp op)) := by
  rcases hop with rfl | rfl | rfl | rfl | rfl | rfl
  all_goals
    go_enter Tryd.func96, Tryd.ntmps96
    go_wp2
    go_ret
    exact .mk (.refl _ _) (int_eq (by rfl))
def RNegC (e : Ex) : Prop := ∀ (S : Nat → Prop) (W : World) (v : Value), ExprV S W e v → Calls Tryd.prog 68 #[v] W (Post W fun W' r => ExprV (fun b => S b ∨ W.heap.size ≤ b) W' (negE e) r)

set_option maxRecDepth 100000 in
set_option maxHeartbeats 8000000 in
theorem rneg_not (x : Ex) : RNegC (oneE 12 x) := by
  intro S W v h
  obtain ⟨a, cap, b, off, a', c', rfl, hel⟩ := h.bound.one
  obtain ⟨E, hE0⟩ : ∃ E, E = negE (oneE 12 x) := ⟨_, rfl⟩
  rw [← hE0]
  have HEQ := Lib.hid hE0
  clear hE0
  obtain ⟨w0, hw0⟩ : ∃ w0, w0 = (W.alloc (.cells #[.int .i64 12, .int .i64 0, .slice a 1 cap] 24)).alloc (.cells #[.int .i64 0, .int .i64 0, .slice none 0 0] 24) := ⟨_, rfl⟩
  have e0 : Below W.heap.size W w0 := by rw [hw0]; exact ext_alloc' (ext_alloc W _) _
  have rE : Row w0 W.heap.size 24 [.int .i64 12, .int .i64 0, .slice a 1 cap] := by rw [hw0]; exact (row_new W [.int .i64 12, .int .i64 0, .slice a 1 cap] 24).alloc _
  have rR : Row w0 (W.heap.size + 1) 24 [.int .i64 0, .int .i64 0, .slice none 0 0] := by
    have r2 := row_new (W.alloc (.cells #[.int .i64 12, .int .i64 0, .slice a 1 cap] 24)) [.int .i64 0, .int .i64 0, .slice none 0 0] 24
    rw [World.size_alloc] at r2
    rw [hw0]
    exact r2
  have xE := h.bound.ext e0
  have hl := rE.lt
  have hl2 := rR.lt
  have hel := hel.ext e0
  have q := hel.idx
  have c0 := hel.c0
  have c1 := hel.c1
  have c2 := hel.c2
  obtain ⟨x0, x1, x2⟩ := rE.three
  obtain ⟨r0, r1, r2⟩ := (rR).three
  have q0 := (rR).free 0
  have q1 := (rR).free 1
  have q2 := (rR).free 2
  go_enter Tryd.func68, Tryd.ntmps68
  go_upto_region 1 with fail
  rw [← hw0]
  clear hw0
  go_wp2
  refine bodyPost_ret (v := .agg #[.int .i64 x.op, .int .i64 x.num, .slice a' x.args.length c']) (by simp [results, Tryd.results68, go_sem, r0, r1, r2]) rfl ?_
  rw [show E = x from HEQ.out.trans (neg_not x)]
  exact .mk (set3_below _ _ _ e0 (by omega)) (set3_exprU _ _ _ hel.ex (fun hc => by have := hc.2; omega) (fun b hc => .inl hc.1))

set_option maxRecDepth 100000 in
set_option maxHeartbeats 8000000 in
theorem rneg_hears (x y : Ex) : RNegC (twoE 4 x y) := by
  intro S W v h
  obtain ⟨a, cap, b, off, a', c', b2, off2, a2, c2, rfl, hel, hel2⟩ := h.two
  obtain ⟨E, hE0⟩ : ∃ E, E = negE (twoE 4 x y) := ⟨_, rfl⟩
  rw [← hE0]
  have HEQ := Lib.hid hE0
  clear hE0
  obtain ⟨w0, hw0⟩ : ∃ w0, w0 = (W.alloc (.cells #[.int .i64 4, .int .i64 0, .slice a 2 cap] 24)).alloc (.cells #[.int .i64 0, .int .i64 0, .slice none 0 0] 24) := ⟨_, rfl⟩
  have e0 : Below W.heap.size W w0 := by rw [hw0]; exact ext_alloc' (ext_alloc W _) _
  have rE : Row w0 W.heap.size 24 [.int .i64 4, .int .i64 0, .slice a 2 cap] := by rw [hw0]; exact (row_new W [.int .i64 4, .int .i64 0, .slice a 2 cap] 24).alloc _
  have rR : Row w0 (W.heap.size + 1) 24 [.int .i64 0, .int .i64 0, .slice none 0 0] := by
    have r2 := row_new (W.alloc (.cells #[.int .i64 4, .int .i64 0, .slice a 2 cap] 24)) [.int .i64 0, .int .i64 0, .slice none 0 0] 24
    rw [World.size_alloc] at r2
    rw [hw0]
    exact r2
  have xE := h.bound.ext e0
  have hl := rE.lt
  have hl2 := rR.lt
  clear hel hel2
  obtain ⟨x0, x1, x2⟩ := rE.three
  go_enter Tryd.func68, Tryd.ntmps68
  go_upto_region 1 with fail
  rw [← hw0]
  clear hw0
  go_wp2_with fail
  refine (rdual_calls w0 4 (by omega)).mono ?_
  rintro _ w1 ⟨_, rfl, hb1, rfl⟩
  have hd : dualOp 4 = -1 := rfl
  rw [hd]
  clear hd x0 x1 x2
  obtain ⟨x0, x1, x2⟩ := (rE.ext hb1).three
  have CALL := Lib.hid (refOne_calls (xE.ext hb1) 12 (by unfold WF; omega))
  go_wp2_with fail
  refine CALL.out.mono ?_
  rintro _ w2 ⟨v2, rfl, hb2, hx2⟩
  have hb12 := ext_trans hb1 hb2
  have hx2' : ExprV (fun b => (S b ∧ b < W.heap.size) ∨ w1.heap.size ≤ b) w2 E v2 := by rw [HEQ.out, neg_hears]; exact hx2
  clear hx2
  obtain ⟨a9, c9, rfl, _⟩ := hx2'.parts
  have s1 := hb1.size
  obtain ⟨r0, r1, r2⟩ := (rR.ext hb12).three
  have q0 := (rR.ext hb12).free 0
  have q1 := (rR.ext hb12).free 1
  have q2 := (rR.ext hb12).free 2
  go_wp2
  refine bodyPost_ret (v := .agg #[.int .i64 E.op, .int .i64 E.num, .slice a9 E.args.length c9]) (by simp [results, Tryd.results68, go_sem, r0, r1, r2]) rfl ?_
  exact .mk (set3_below _ _ _ (ext_trans e0 hb12) (by omega)) (set3_exprU _ _ _ hx2' (fun hc => by rcases hc with hc | hc; have := hc.2; omega; omega) (fun b hc => by rcases hc with hc | hc; exact .inl hc.1; exact .inr (by omega)))

set_option maxRecDepth 100000 in
set_option maxHeartbeats 8000000 in
theorem rneg_equal (x y : Ex) : RNegC (twoE 7 x y) := by
  intro S W v h
  obtain ⟨a, cap, b, off, a', c', b2, off2, a2, c2, rfl, hel, hel2⟩ := h.two
  obtain ⟨E, hE0⟩ : ∃ E, E = negE (twoE 7 x y) := ⟨_, rfl⟩
  rw [← hE0]
  have HEQ := Lib.hid hE0
  clear hE0
  obtain ⟨w0, hw0⟩ : ∃ w0, w0 = (W.alloc (.cells #[.int .i64 7, .int .i64 0, .slice a 2 cap] 24)).alloc (.cells #[.int .i64 0, .int .i64 0, .slice none 0 0] 24) := ⟨_, rfl⟩
  have e0 : Below W.heap.size W w0 := by rw [hw0]; exact ext_alloc' (ext_alloc W _) _
  have rE : Row w0 W.heap.size 24 [.int .i64 7, .int .i64 0, .slice a 2 cap] := by rw [hw0]; exact (row_new W [.int .i64 7, .int .i64 0, .slice a 2 cap] 24).alloc _
  have rR : Row w0 (W.heap.size + 1) 24 [.int .i64 0, .int .i64 0, .slice none 0 0] := by
    have r2 := row_new (W.alloc (.cells #[.int .i64 7, .int .i64 0, .slice a 2 cap] 24)) [.int .i64 0, .int .i64 0, .slice none 0 0] 24
    rw [World.size_alloc] at r2
    rw [hw0]
    exact r2
  have xE := h.bound.ext e0
  have hl := rE.lt
  have hl2 := rR.lt
  clear hel hel2
  obtain ⟨x0, x1, x2⟩ := rE.three
  go_enter Tryd.func68, Tryd.ntmps68
  go_upto_region 1 with fail
  rw [← hw0]
  clear hw0
  go_wp2_with fail
  refine (rdual_calls w0 7 (by omega)).mono ?_
  rintro _ w1 ⟨_, rfl, hb1, rfl⟩
  have hd : dualOp 7 = -1 := rfl
  rw [hd]
  clear hd x0 x1 x2
  obtain ⟨x0, x1, x2⟩ := (rE.ext hb1).three
  have CALL := Lib.hid (refOne_calls (xE.ext hb1) 12 (by unfold WF; omega))
  go_wp2_with fail
  refine CALL.out.mono ?_
  rintro _ w2 ⟨v2, rfl, hb2, hx2⟩
  have hb12 := ext_trans hb1 hb2
  have hx2' : ExprV (fun b => (S b ∧ b < W.heap.size) ∨ w1.heap.size ≤ b) w2 E v2 := by rw [HEQ.out, neg_equal]; exact hx2
  clear hx2
  obtain ⟨a9, c9, rfl, _⟩ := hx2'.parts
  have s1 := hb1.size
  obtain ⟨r0, r1, r2⟩ := (rR.ext hb12).three
  have q0 := (rR.ext hb12).free 0
  have q1 := (rR.ext hb12).free 1
  have q2 := (rR.ext hb12).free 2
  go_wp2
  refine bodyPost_ret (v := .agg #[.int .i64 E.op, .int .i64 E.num, .slice a9 E.args.length c9]) (by simp [results, Tryd.results68, go_sem, r0, r1, r2]) rfl ?_
  exact .mk (set3_below _ _ _ (ext_trans e0 hb12) (by omega)) (set3_exprU _ _ _ hx2' (fun hc => by rcases hc with hc | hc; have := hc.2; omega; omega) (fun b hc => by rcases hc with hc | hc; exact .inl hc.1; exact .inr (by omega)))

set_option maxRecDepth 100000 in
set_option maxHeartbeats 8000000 in
theorem rneg_less (x y : Ex) : RNegC (twoE 8 x y) := by
  intro S W v h
  obtain ⟨a, cap, b, off, a', c', b2, off2, a2, c2, rfl, hel, hel2⟩ := h.bound.two
  obtain ⟨E, hE0⟩ : ∃ E, E = negE (twoE 8 x y) := ⟨_, rfl⟩
  rw [← hE0]
  have HEQ := Lib.hid hE0
  clear hE0
  obtain ⟨w0, hw0⟩ : ∃ w0, w0 = (W.alloc (.cells #[.int .i64 8, .int .i64 0, .slice a 2 cap] 24)).alloc (.cells #[.int .i64 0, .int .i64 0, .slice none 0 0] 24) := ⟨_, rfl⟩
  have e0 : Below W.heap.size W w0 := by rw [hw0]; exact ext_alloc' (ext_alloc W _) _
  have rE : Row w0 W.heap.size 24 [.int .i64 8, .int .i64 0, .slice a 2 cap] := by rw [hw0]; exact (row_new W [.int .i64 8, .int .i64 0, .slice a 2 cap] 24).alloc _
  have rR : Row w0 (W.heap.size + 1) 24 [.int .i64 0, .int .i64 0, .slice none 0 0] := by
    have r2 := row_new (W.alloc (.cells #[.int .i64 8, .int .i64 0, .slice a 2 cap] 24)) [.int .i64 0, .int .i64 0, .slice none 0 0] 24
    rw [World.size_alloc] at r2
    rw [hw0]
    exact r2
  have xE := h.bound.ext e0
  have hl := rE.lt
  have hl2 := rR.lt
  have hel := hel.ext e0
  have hel2 := hel2.ext e0
  have CALL := Lib.hid (fun W' (hW : Below w0.heap.size w0 W') => refTwoE_calls (hel2.ex.ext hW) (hel.ex.ext hW) 9 (by unfold WF; omega))
  rw [← neg_less, ← HEQ.out] at CALL
  have q := hel.idx
  have c0 := hel.c0
  have c1 := hel.c1
  have c2' := hel.c2
  have q' := hel2.idx
  have d0 := hel2.c0
  have d1 := hel2.c1
  have d2 := hel2.c2
  obtain ⟨x0, x1, x2⟩ := rE.three
  go_enter Tryd.func68, Tryd.ntmps68
  go_upto_region 1 with fail
  rw [← hw0]
  clear hw0
  go_wp2_with fail
  have hrefl := Below.refl w0.heap.size w0
  have hl3 := rR.lt
  go_region_law
    ((go_simp; go_at_call 44; refine (CALL.out _ (by first | assumption | (apply Below.drew; assumption))).mono ?_; rintro _ w2 ⟨v2, rfl, hb2', hx2⟩; obtain ⟨a9, c9, rfl, _⟩ := hx2.parts; have hb2 : Below w0.heap.size w0 w2 := ext_trans (by (first | assumption | (apply Below.drew; assumption))) hb2'; have rR2 := rR.ext hb2; obtain ⟨r0, r1, r2⟩ := rR2.three; have q0 := rR2.free 0; have q1 := rR2.free 1; have q2 := rR2.free 2))
  all_goals
    go_wp2
    refine bodyPost_ret (v := .agg #[.int .i64 E.op, .int .i64 E.num, .slice a9 E.args.length c9]) (by simp [results, Tryd.results68, go_sem, r0, r1, r2]) rfl ?_
    have s2 := hb2.size
    have s1 := hb2'.size
    exact .mk (set3_below _ _ _ (ext_trans e0 hb2) (by omega)) (set3_exprU _ _ _ hx2 (fun hc => by rcases hc with hc | hc; have := hc.2; omega; (try simp at hc); omega) (fun b hc => by rcases hc with hc | hc; exact .inl hc.1; exact .inr (by (try simp at hc); omega)))

set_option maxRecDepth 100000 in
set_option maxHeartbeats 8000000 in
theorem rneg_most (x y : Ex) : RNegC (twoE 9 x y) := by
  intro S W v h
  obtain ⟨a, cap, b, off, a', c', b2, off2, a2, c2, rfl, hel, hel2⟩ := h.bound.two
  obtain ⟨E, hE0⟩ : ∃ E, E = negE (twoE 9 x y) := ⟨_, rfl⟩
  rw [← hE0]
  have HEQ := Lib.hid hE0
  clear hE0
  obtain ⟨w0, hw0⟩ : ∃ w0, w0 = (W.alloc (.cells #[.int .i64 9, .int .i64 0, .slice a 2 cap] 24)).alloc (.cells #[.int .i64 0, .int .i64 0, .slice none 0 0] 24) := ⟨_, rfl⟩
  have e0 : Below W.heap.size W w0 := by rw [hw0]; exact ext_alloc' (ext_alloc W _) _
  have rE : Row w0 W.heap.size 24 [.int .i64 9, .int .i64 0, .slice a 2 cap] := by rw [hw0]; exact (row_new W [.int .i64 9, .int .i64 0, .slice a 2 cap] 24).alloc _
  have rR : Row w0 (W.heap.size + 1) 24 [.int .i64 0, .int .i64 0, .slice none 0 0] := by
    have r2 := row_new (W.alloc (.cells #[.int .i64 9, .int .i64 0, .slice a 2 cap] 24)) [.int .i64 0, .int .i64 0, .slice none 0 0] 24
    rw [World.size_alloc] at r2
    rw [hw0]
    exact r2
  have xE := h.bound.ext e0
  have hl := rE.lt
  have hl2 := rR.lt
  have hel := hel.ext e0
  have hel2 := hel2.ext e0
  have CALL := Lib.hid (fun W' (hW : Below w0.heap.size w0 W') => refTwoE_calls (hel2.ex.ext hW) (hel.ex.ext hW) 8 (by unfold WF; omega))
  rw [← neg_most, ← HEQ.out] at CALL
  have q := hel.idx
  have c0 := hel.c0
  have c1 := hel.c1
  have c2' := hel.c2
  have q' := hel2.idx
  have d0 := hel2.c0
  have d1 := hel2.c1
  have d2 := hel2.c2
  obtain ⟨x0, x1, x2⟩ := rE.three
  go_enter Tryd.func68, Tryd.ntmps68
  go_upto_region 1 with fail
  rw [← hw0]
  clear hw0
  go_wp2_with fail
  have hrefl := Below.refl w0.heap.size w0
  have hl3 := rR.lt
  go_region_law
    ((go_simp; go_at_call 44; refine (CALL.out _ (by first | assumption | (apply Below.drew; assumption))).mono ?_; rintro _ w2 ⟨v2, rfl, hb2', hx2⟩; obtain ⟨a9, c9, rfl, _⟩ := hx2.parts; have hb2 : Below w0.heap.size w0 w2 := ext_trans (by (first | assumption | (apply Below.drew; assumption))) hb2'; have rR2 := rR.ext hb2; obtain ⟨r0, r1, r2⟩ := rR2.three; have q0 := rR2.free 0; have q1 := rR2.free 1; have q2 := rR2.free 2))
  all_goals
    go_wp2
    refine bodyPost_ret (v := .agg #[.int .i64 E.op, .int .i64 E.num, .slice a9 E.args.length c9]) (by simp [results, Tryd.results68, go_sem, r0, r1, r2]) rfl ?_
    have s2 := hb2.size
    have s1 := hb2'.size
    exact .mk (set3_below _ _ _ (ext_trans e0 hb2) (by omega)) (set3_exprU _ _ _ hx2 (fun hc => by rcases hc with hc | hc; have := hc.2; omega; (try simp at hc); omega) (fun b hc => by rcases hc with hc | hc; exact .inl hc.1; exact .inr (by (try simp at hc); omega)))

set_option maxRecDepth 100000 in
set_option maxHeartbeats 8000000 in
theorem rneg_all (x : Ex) (ih : RNegC x) : RNegC (oneE 13 x) := by
  intro S W v h
  obtain ⟨a, cap, b, off, a', c', rfl, hel⟩ := h.one
  obtain ⟨E, hE0⟩ : ∃ E, E = negE (oneE 13 x) := ⟨_, rfl⟩
  rw [← hE0]
  have HEQ := Lib.hid hE0
  clear hE0
  obtain ⟨w0, hw0⟩ : ∃ w0, w0 = (W.alloc (.cells #[.int .i64 13, .int .i64 0, .slice a 1 cap] 24)).alloc (.cells #[.int .i64 0, .int .i64 0, .slice none 0 0] 24) := ⟨_, rfl⟩
  have e0 : Below W.heap.size W w0 := by rw [hw0]; exact ext_alloc' (ext_alloc W _) _
  have rE : Row w0 W.heap.size 24 [.int .i64 13, .int .i64 0, .slice a 1 cap] := by rw [hw0]; exact (row_new W [.int .i64 13, .int .i64 0, .slice a 1 cap] 24).alloc _
  have rR : Row w0 (W.heap.size + 1) 24 [.int .i64 0, .int .i64 0, .slice none 0 0] := by
    have r2 := row_new (W.alloc (.cells #[.int .i64 13, .int .i64 0, .slice a 1 cap] 24)) [.int .i64 0, .int .i64 0, .slice none 0 0] 24
    rw [World.size_alloc] at r2
    rw [hw0]
    exact r2
  have xE := h.bound.ext e0
  have hl := rE.lt
  have hl2 := rR.lt
  have hel0 := Lib.hid (show ∀ k : Nat, k < 1 → ∃ b off a' c', El S W a 1 cap k (nthE [x] k) b off a' c' by
    intro k hk; obtain rfl : k = 0 := by omega
    exact ⟨b, off, a', c', hel⟩)
  have ih : ∀ z ∈ [x], RNegC z := by intro z hz; (obtain rfl : z = x := by simpa using hz); exact ih
  clear hel
  obtain ⟨i0, hi, hz0, hz1, hz2⟩ := info_parts info_expr3
  obtain ⟨x0, x1, x2⟩ := rE.three
  go_enter Tryd.func68, Tryd.ntmps68
  go_upto_region 1 with fail
  rw [← hw0]
  clear hw0
  go_wp2_with fail
  refine (rdual_calls w0 13 (by omega)).mono ?_
  rintro _ w1 ⟨_, rfl, hb1, rfl⟩
  have hd : dualOp 13 = 14 := rfl
  rw [hd]
  clear x0 x1 x2
  obtain ⟨x0, x1, x2⟩ := (rE.ext hb1).three
  go_wp2_with fail
  refine (rdual_calls w1 13 (by omega)).mono ?_
  rintro _ wd ⟨_, rfl, hb2, rfl⟩
  rw [hd]
  clear x0 x1 x2 hd
  have hbd := ext_trans hb1 hb2
  have ed := ext_trans e0 hbd
  have rE := rE.ext hbd
  have rR := rR.ext hbd
  have hl := rE.lt
  have hl2 := rR.lt
  obtain ⟨x0, x1, x2⟩ := rE.three
  go_wp2
  go_loopw [4] (fun i wr => ∃ k : Nat, k ≤ 1 ∧ i = .int .i64 k ∧ Below W.heap.size W wr ∧ ∃ (v' : Value) (us : List Tri) (T : Nat → Prop), Row wr (W.heap.size) 24 [.int .i64 13, .int .i64 0, .slice a 1 cap] ∧ Row wr (W.heap.size + 1) 24 [.int .i64 0, .int .i64 0, .slice none 0 0] ∧ Row wr (wd.heap.size) 24 [.int .i64 14, .int .i64 0, v'] ∧
      Args3 T (wd.heap.size + 1) wr v' us (negL ([x].take k)) ∧ (∀ b, T b → (S b ∧ b < W.heap.size) ∨ wd.heap.size + 1 ≤ b)) (fun i _ => 1 - (intOf i).toNat)
  case atStart =>
    exact ⟨0, by omega, rfl, ext_alloc' ed _, .slice none 0 0, [], fun _ => False, rE.alloc _, rR.alloc _, row_new wd [.int .i64 14, .int .i64 0, .slice none 0 0] _, Args3.nil _ _, fun b h => h.elim⟩
  case round =>
    obtain ⟨k, hk, rfl, hb, v', us, T, hE, hR1, hR, hA, hT⟩ := hrel
    by_cases hlt : k < 1
    · obtain ⟨b, off, a', c', hel⟩ := hel0.out k hlt
      have hel1 := hel.ext hb
      have q := hel1.idx
      have c0 := hel1.c0
      have c1 := hel1.c1
      have c2 := hel1.c2
      obtain ⟨x0, x1, x2⟩ := hE.three
      have ce := hR.cell (j := 2) rfl
      have hlE := hE.lt
      have hlR := hR.lt
      have hlR1 := hR1.lt
      go_wp2_with fail
      have hex : ExprV (fun b => S b ∧ b < W.heap.size) wr (nthE [x] k) (.agg #[.int .i64 (nthE [x] k).op, .int .i64 (nthE [x] k).num, .slice a' (nthE [x] k).args.length c']) := hel.ex.bound.ext hb
      have HK := Lib.hid (negL_length ([x].take k))
      have HIH := Lib.hid (ih _ (nthE_mem (l := [x]) hlt))
      have IK := Lib.hid (fun W' (hW' : Below wr.heap.size wr W') => HIH.out _ W' _ (hex.ext hW'))
      have hrefl := Below.refl wr.heap.size wr
      have hkl : (negL ([x].take k)).length ≤ 1000 := by rw [HK.out, List.length_take]; omega
      have B1 := Lib.hid (show (negL ([x].take k)).length + 1 ≤ maxLen by unfold maxLen; omega)
      have B2 := Lib.hid (show ((negL ([x].take k)).length + 1) * 40 ≤ 140737488355328 by omega)
      have hbs := hb.size
      have HNE := Lib.hid (show v'.ownBlock ≠ some (wd.heap.size) from fun h => by have := (hA.own_lt _ h).1; omega)
      go_region_law
        (first
          | (go_simp; go_at_call 68; refine (IK.out _ (by first | assumption | (apply Below.drew; assumption))).mono ?_; rintro _ w5 ⟨v5, rfl, hb5, hx5⟩; obtain ⟨a5, c5, rfl, wo5, wn5, _⟩ := hx5.parts; have hbb : Below wr.heap.size wr w5 := ext_trans (by first | assumption | (apply Below.drew; assumption)) hb5; have ce5 := cell_ext ce hbb; have OWN5 := Lib.hid (hA.2.1 |> fun h => owns_ext h hbb); have hl5 : wd.heap.size < w5.heap.size := Nat.lt_of_lt_of_le hR.lt hbb.size)
          | (refine step_append_lies _ (by rfl) _ _ _ (by rfl) (wd.heap.size + 1) 24 i0 _ 3 40 Tryd.underlying22 hi hz0 hz1 hz2 rfl (by decide) v' (negL ([x].take k)).length (flat us) (by rfl) (by first | exact OWN5.out.alloc _ | exact (OWN5.out.alloc _).drew) ⟨w5.heap.size, 0, none⟩ 1 1 [.int .i64 (negE (nthE [x] k)).op, .int .i64 (negE (nthE [x] k)).num, .slice a5 (negE (nthE [x] k)).args.length c5] (by rfl) (by rfl)
              (World.news_of_block (cs := #[.int .i64 (negE (nthE [x] k)).op, .int .i64 (negE (nthE [x] k)).num, .slice a5 (negE (nthE [x] k)).args.length c5]) (t := 24) (fr := (0, 0)) (heap_alloc_new w5 _)) (by simp [Value.oneCell']) (by decide) B1.out B2.out (by simp; omega) (w5.heap.size + 1) (by simp) ?_; intro g6 cp6 w6 hown6 hgrow6 hat6 hlt6; have hR6 := Row.grown ((hR.ext hbb).alloc (.cells #[.int .i64 (negE (nthE [x] k)).op, .int .i64 (negE (nthE [x] k)).num, .slice a5 (negE (nthE [x] k)).args.length c5] 24)) hgrow6 HNE.out; have ce6 := hR6.cell (j := 2) rfl; have fr6 := hR6.free 2))
      all_goals
        have HRA := round_args2 (W := W) (base := wd.heap.size + 1) (Bx := wd.heap.size) (by omega) (by omega) (by omega) hb hrefl hbb hR hA (fun b h => h.2) hT hx5 rfl hown6 hgrow6 hat6
        obtain ⟨hb7, hR7, hO7, T7, hA7, hT7⟩ := HRA
        have hE7 := hO7 _ _ _ (by omega) (by omega) hE
        have hR17 := hO7 _ _ _ (by omega) (by omega) hR1
        have HSN := Lib.hid (show negL ([x].take (k + 1)) = (negL ([x].take k)) ++ [(negE (nthE [x] k))] from negL_snoc (xs := [x]) hlt)
        rw [← HSN.out] at hA7
        go_wp2
        go_roundw
        case rel => exact ⟨k + 1, by omega, by go_num, hb7, _, _, T7, hE7, hR17, hR7, hA7, hT7⟩
        case measure => simp [intOf]; omega
    · obtain rfl : k = 1 := by omega
      have hX := (hA.expr (op := 14) (num := 0) (by unfold WF; omega) (by unfold WF; omega)).mono (S' := fun b => (S b ∧ b < W.heap.size) ∨ W.heap.size + 2 ≤ b) (by
        rintro b (h | h)
        · rcases hT b h with h | h
          · exact .inl h
          · exact .inr (by omega)
        · have := (hA.own_lt b h).1; exact .inr (by omega))
      obtain ⟨a2, cap2, he2, _⟩ := hX.els
      have he3 : v' = .slice a2 1 cap2 := by have h : Value.agg #[.int .i64 14, .int .i64 0, v'] = .agg #[.int .i64 14, .int .i64 0, .slice a2 1 cap2] := he2; simpa using h
      clear he2
      subst he3
      clear x0 x1 x2
      obtain ⟨e0', e1', e2'⟩ := hR.three
      obtain ⟨x0, x1, x2⟩ := hE.three
      obtain ⟨r0, r1, r2⟩ := hR1.three
      have q0 := hR1.free 0
      have q1 := hR1.free 1
      have q2 := hR1.free 2
      have hlE := hE.lt
      have hlR := hR.lt
      have hlR1 := hR1.lt
      go_wp2
      refine bodyPost_ret (v := .agg #[.int .i64 14, .int .i64 0, .slice a2 1 cap2]) (by simp [results, Tryd.results68, go_sem, r0, r1, r2]) rfl ?_
      rw [show E = _ from HEQ.out.trans (by rfl)]
      exact .mk (set3_below _ _ _ hb (by omega)) (set3_exprU _ _ _ hX (fun hc => by rcases hc with hc | hc; have := hc.2; omega; omega) (fun b hc => by rcases hc with hc | hc; exact .inl hc.1; exact .inr (by omega)))

set_option maxRecDepth 100000 in
set_option maxHeartbeats 8000000 in
theorem rneg_some (x : Ex) (ih : RNegC x) : RNegC (oneE 14 x) := by
  intro S W v h
  obtain ⟨a, cap, b, off, a', c', rfl, hel⟩ := h.one
  obtain ⟨E, hE0⟩ : ∃ E, E = negE (oneE 14 x) := ⟨_, rfl⟩
  rw [← hE0]
  have HEQ := Lib.hid hE0
  clear hE0
  obtain ⟨w0, hw0⟩ : ∃ w0, w0 = (W.alloc (.cells #[.int .i64 14, .int .i64 0, .slice a 1 cap] 24)).alloc (.cells #[.int .i64 0, .int .i64 0, .slice none 0 0] 24) := ⟨_, rfl⟩
  have e0 : Below W.heap.size W w0 := by rw [hw0]; exact ext_alloc' (ext_alloc W _) _
  have rE : Row w0 W.heap.size 24 [.int .i64 14, .int .i64 0, .slice a 1 cap] := by rw [hw0]; exact (row_new W [.int .i64 14, .int .i64 0, .slice a 1 cap] 24).alloc _
  have rR : Row w0 (W.heap.size + 1) 24 [.int .i64 0, .int .i64 0, .slice none 0 0] := by
    have r2 := row_new (W.alloc (.cells #[.int .i64 14, .int .i64 0, .slice a 1 cap] 24)) [.int .i64 0, .int .i64 0, .slice none 0 0] 24
    rw [World.size_alloc] at r2
    rw [hw0]
    exact r2
  have xE := h.bound.ext e0
  have hl := rE.lt
  have hl2 := rR.lt
  have hel0 := Lib.hid (show ∀ k : Nat, k < 1 → ∃ b off a' c', El S W a 1 cap k (nthE [x] k) b off a' c' by
    intro k hk; obtain rfl : k = 0 := by omega
    exact ⟨b, off, a', c', hel⟩)
  have ih : ∀ z ∈ [x], RNegC z := by intro z hz; (obtain rfl : z = x := by simpa using hz); exact ih
  clear hel
  obtain ⟨i0, hi, hz0, hz1, hz2⟩ := info_parts info_expr3
  obtain ⟨x0, x1, x2⟩ := rE.three
  go_enter Tryd.func68, Tryd.ntmps68
  go_upto_region 1 with fail
  rw [← hw0]
  clear hw0
  go_wp2_with fail
  refine (rdual_calls w0 14 (by omega)).mono ?_
  rintro _ w1 ⟨_, rfl, hb1, rfl⟩
  have hd : dualOp 14 = 13 := rfl
  rw [hd]
  clear x0 x1 x2
  obtain ⟨x0, x1, x2⟩ := (rE.ext hb1).three
  go_wp2_with fail
  refine (rdual_calls w1 14 (by omega)).mono ?_
  rintro _ wd ⟨_, rfl, hb2, rfl⟩
  rw [hd]
  clear x0 x1 x2 hd
  have hbd := ext_trans hb1 hb2
  have ed := ext_trans e0 hbd
  have rE := rE.ext hbd
  have rR := rR.ext hbd
  have hl := rE.lt
  have hl2 := rR.lt
  obtain ⟨x0, x1, x2⟩ := rE.three
  go_wp2
  go_loopw [4] (fun i wr => ∃ k : Nat, k ≤ 1 ∧ i = .int .i64 k ∧ Below W.heap.size W wr ∧ ∃ (v' : Value) (us : List Tri) (T : Nat → Prop), Row wr (W.heap.size) 24 [.int .i64 14, .int .i64 0, .slice a 1 cap] ∧ Row wr (W.heap.size + 1) 24 [.int .i64 0, .int .i64 0, .slice none 0 0] ∧ Row wr (wd.heap.size) 24 [.int .i64 13, .int .i64 0, v'] ∧
      Args3 T (wd.heap.size + 1) wr v' us (negL ([x].take k)) ∧ (∀ b, T b → (S b ∧ b < W.heap.size) ∨ wd.heap.size + 1 ≤ b)) (fun i _ => 1 - (intOf i).toNat)
  case atStart =>
    exact ⟨0, by omega, rfl, ext_alloc' ed _, .slice none 0 0, [], fun _ => False, rE.alloc _, rR.alloc _, row_new wd [.int .i64 13, .int .i64 0, .slice none 0 0] _, Args3.nil _ _, fun b h => h.elim⟩
  case round =>
    obtain ⟨k, hk, rfl, hb, v', us, T, hE, hR1, hR, hA, hT⟩ := hrel
    by_cases hlt : k < 1
    · obtain ⟨b, off, a', c', hel⟩ := hel0.out k hlt
      have hel1 := hel.ext hb
      have q := hel1.idx
      have c0 := hel1.c0
      have c1 := hel1.c1
      have c2 := hel1.c2
      obtain ⟨x0, x1, x2⟩ := hE.three
      have ce := hR.cell (j := 2) rfl
      have hlE := hE.lt
      have hlR := hR.lt
      have hlR1 := hR1.lt
      go_wp2_with fail
      have hex : ExprV (fun b => S b ∧ b < W.heap.size) wr (nthE [x] k) (.agg #[.int .i64 (nthE [x] k).op, .int .i64 (nthE [x] k).num, .slice a' (nthE [x] k).args.length c']) := hel.ex.bound.ext hb
      have HK := Lib.hid (negL_length ([x].take k))
      have HIH := Lib.hid (ih _ (nthE_mem (l := [x]) hlt))
      have IK := Lib.hid (fun W' (hW' : Below wr.heap.size wr W') => HIH.out _ W' _ (hex.ext hW'))
      have hrefl := Below.refl wr.heap.size wr
      have hkl : (negL ([x].take k)).length ≤ 1000 := by rw [HK.out, List.length_take]; omega
      have B1 := Lib.hid (show (negL ([x].take k)).length + 1 ≤ maxLen by unfold maxLen; omega)
      have B2 := Lib.hid (show ((negL ([x].take k)).length + 1) * 40 ≤ 140737488355328 by omega)
      have hbs := hb.size
      have HNE := Lib.hid (show v'.ownBlock ≠ some (wd.heap.size) from fun h => by have := (hA.own_lt _ h).1; omega)
      go_region_law
        (first
          | (go_simp; go_at_call 68; refine (IK.out _ (by first | assumption | (apply Below.drew; assumption))).mono ?_; rintro _ w5 ⟨v5, rfl, hb5, hx5⟩; obtain ⟨a5, c5, rfl, wo5, wn5, _⟩ := hx5.parts; have hbb : Below wr.heap.size wr w5 := ext_trans (by first | assumption | (apply Below.drew; assumption)) hb5; have ce5 := cell_ext ce hbb; have OWN5 := Lib.hid (hA.2.1 |> fun h => owns_ext h hbb); have hl5 : wd.heap.size < w5.heap.size := Nat.lt_of_lt_of_le hR.lt hbb.size)
          | (refine step_append_lies _ (by rfl) _ _ _ (by rfl) (wd.heap.size + 1) 24 i0 _ 3 40 Tryd.underlying22 hi hz0 hz1 hz2 rfl (by decide) v' (negL ([x].take k)).length (flat us) (by rfl) (by first | exact OWN5.out.alloc _ | exact (OWN5.out.alloc _).drew) ⟨w5.heap.size, 0, none⟩ 1 1 [.int .i64 (negE (nthE [x] k)).op, .int .i64 (negE (nthE [x] k)).num, .slice a5 (negE (nthE [x] k)).args.length c5] (by rfl) (by rfl)
              (World.news_of_block (cs := #[.int .i64 (negE (nthE [x] k)).op, .int .i64 (negE (nthE [x] k)).num, .slice a5 (negE (nthE [x] k)).args.length c5]) (t := 24) (fr := (0, 0)) (heap_alloc_new w5 _)) (by simp [Value.oneCell']) (by decide) B1.out B2.out (by simp; omega) (w5.heap.size + 1) (by simp) ?_; intro g6 cp6 w6 hown6 hgrow6 hat6 hlt6; have hR6 := Row.grown ((hR.ext hbb).alloc (.cells #[.int .i64 (negE (nthE [x] k)).op, .int .i64 (negE (nthE [x] k)).num, .slice a5 (negE (nthE [x] k)).args.length c5] 24)) hgrow6 HNE.out; have ce6 := hR6.cell (j := 2) rfl; have fr6 := hR6.free 2))
      all_goals
        have HRA := round_args2 (W := W) (base := wd.heap.size + 1) (Bx := wd.heap.size) (by omega) (by omega) (by omega) hb hrefl hbb hR hA (fun b h => h.2) hT hx5 rfl hown6 hgrow6 hat6
        obtain ⟨hb7, hR7, hO7, T7, hA7, hT7⟩ := HRA
        have hE7 := hO7 _ _ _ (by omega) (by omega) hE
        have hR17 := hO7 _ _ _ (by omega) (by omega) hR1
        have HSN := Lib.hid (show negL ([x].take (k + 1)) = (negL ([x].take k)) ++ [(negE (nthE [x] k))] from negL_snoc (xs := [x]) hlt)
        rw [← HSN.out] at hA7
        go_wp2
        go_roundw
        case rel => exact ⟨k + 1, by omega, by go_num, hb7, _, _, T7, hE7, hR17, hR7, hA7, hT7⟩
        case measure => simp [intOf]; omega
    · obtain rfl : k = 1 := by omega
      have hX := (hA.expr (op := 13) (num := 0) (by unfold WF; omega) (by unfold WF; omega)).mono (S' := fun b => (S b ∧ b < W.heap.size) ∨ W.heap.size + 2 ≤ b) (by
        rintro b (h | h)
        · rcases hT b h with h | h
          · exact .inl h
          · exact .inr (by omega)
        · have := (hA.own_lt b h).1; exact .inr (by omega))
      obtain ⟨a2, cap2, he2, _⟩ := hX.els
      have he3 : v' = .slice a2 1 cap2 := by have h : Value.agg #[.int .i64 13, .int .i64 0, v'] = .agg #[.int .i64 13, .int .i64 0, .slice a2 1 cap2] := he2; simpa using h
      clear he2
      subst he3
      clear x0 x1 x2
      obtain ⟨e0', e1', e2'⟩ := hR.three
      obtain ⟨x0, x1, x2⟩ := hE.three
      obtain ⟨r0, r1, r2⟩ := hR1.three
      have q0 := hR1.free 0
      have q1 := hR1.free 1
      have q2 := hR1.free 2
      have hlE := hE.lt
      have hlR := hR.lt
      have hlR1 := hR1.lt
      go_wp2
      refine bodyPost_ret (v := .agg #[.int .i64 13, .int .i64 0, .slice a2 1 cap2]) (by simp [results, Tryd.results68, go_sem, r0, r1, r2]) rfl ?_
      rw [show E = _ from HEQ.out.trans (by rfl)]
      exact .mk (set3_below _ _ _ hb (by omega)) (set3_exprU _ _ _ hX (fun hc => by rcases hc with hc | hc; have := hc.2; omega; omega) (fun b hc => by rcases hc with hc | hc; exact .inl hc.1; exact .inr (by omega)))

set_option maxRecDepth 100000 in
set_option maxHeartbeats 8000000 in
theorem rneg_and (x y : Ex) (ih : RNegC x) (ih2 : RNegC y) : RNegC (twoE 10 x y) := by
  intro S W v h
  obtain ⟨a, cap, b, off, a', c', b2, off2, a2, c2, rfl, hel, hel2⟩ := h.two
  obtain ⟨E, hE0⟩ : ∃ E, E = negE (twoE 10 x y) := ⟨_, rfl⟩
  rw [← hE0]
  have HEQ := Lib.hid hE0
  clear hE0
  obtain ⟨w0, hw0⟩ : ∃ w0, w0 = (W.alloc (.cells #[.int .i64 10, .int .i64 0, .slice a 2 cap] 24)).alloc (.cells #[.int .i64 0, .int .i64 0, .slice none 0 0] 24) := ⟨_, rfl⟩
  have e0 : Below W.heap.size W w0 := by rw [hw0]; exact ext_alloc' (ext_alloc W _) _
  have rE : Row w0 W.heap.size 24 [.int .i64 10, .int .i64 0, .slice a 2 cap] := by rw [hw0]; exact (row_new W [.int .i64 10, .int .i64 0, .slice a 2 cap] 24).alloc _
  have rR : Row w0 (W.heap.size + 1) 24 [.int .i64 0, .int .i64 0, .slice none 0 0] := by
    have r2 := row_new (W.alloc (.cells #[.int .i64 10, .int .i64 0, .slice a 2 cap] 24)) [.int .i64 0, .int .i64 0, .slice none 0 0] 24
    rw [World.size_alloc] at r2
    rw [hw0]
    exact r2
  have xE := h.bound.ext e0
  have hl := rE.lt
  have hl2 := rR.lt
  have hel0 := Lib.hid (show ∀ k : Nat, k < 2 → ∃ b off a' c', El S W a 2 cap k (nthE [x, y] k) b off a' c' by
    intro k hk
    have hk2 : k = 0 ∨ k = 1 := by omega
    rcases hk2 with rfl | rfl
    · exact ⟨b, off, a', c', hel⟩
    · exact ⟨b2, off2, a2, c2, hel2⟩)
  have ih : ∀ z ∈ [x, y], RNegC z := by intro z hz; rcases List.mem_cons.1 hz with rfl | hz; exact ih; (obtain rfl : z = y := by simpa using hz); exact ih2
  clear hel hel2
  obtain ⟨i0, hi, hz0, hz1, hz2⟩ := info_parts info_expr3
  obtain ⟨x0, x1, x2⟩ := rE.three
  go_enter Tryd.func68, Tryd.ntmps68
  go_upto_region 1 with fail
  rw [← hw0]
  clear hw0
  go_wp2_with fail
  refine (rdual_calls w0 10 (by omega)).mono ?_
  rintro _ w1 ⟨_, rfl, hb1, rfl⟩
  have hd : dualOp 10 = 11 := rfl
  rw [hd]
  clear x0 x1 x2
  obtain ⟨x0, x1, x2⟩ := (rE.ext hb1).three
  go_wp2_with fail
  refine (rdual_calls w1 10 (by omega)).mono ?_
  rintro _ wd ⟨_, rfl, hb2, rfl⟩
  rw [hd]
  clear x0 x1 x2 hd
  have hbd := ext_trans hb1 hb2
  have ed := ext_trans e0 hbd
  have rE := rE.ext hbd
  have rR := rR.ext hbd
  have hl := rE.lt
  have hl2 := rR.lt
  obtain ⟨x0, x1, x2⟩ := rE.three
  go_wp2
  go_loopw [4] (fun i wr => ∃ k : Nat, k ≤ 2 ∧ i = .int .i64 k ∧ Below W.heap.size W wr ∧ ∃ (v' : Value) (us : List Tri) (T : Nat → Prop), Row wr (W.heap.size) 24 [.int .i64 10, .int .i64 0, .slice a 2 cap] ∧ Row wr (W.heap.size + 1) 24 [.int .i64 0, .int .i64 0, .slice none 0 0] ∧ Row wr (wd.heap.size) 24 [.int .i64 11, .int .i64 0, v'] ∧
      Args3 T (wd.heap.size + 1) wr v' us (negL ([x, y].take k)) ∧ (∀ b, T b → (S b ∧ b < W.heap.size) ∨ wd.heap.size + 1 ≤ b)) (fun i _ => 2 - (intOf i).toNat)
  case atStart =>
    exact ⟨0, by omega, rfl, ext_alloc' ed _, .slice none 0 0, [], fun _ => False, rE.alloc _, rR.alloc _, row_new wd [.int .i64 11, .int .i64 0, .slice none 0 0] _, Args3.nil _ _, fun b h => h.elim⟩
  case round =>
    obtain ⟨k, hk, rfl, hb, v', us, T, hE, hR1, hR, hA, hT⟩ := hrel
    by_cases hlt : k < 2
    · obtain ⟨b, off, a', c', hel⟩ := hel0.out k hlt
      have hel1 := hel.ext hb
      have q := hel1.idx
      have c0 := hel1.c0
      have c1 := hel1.c1
      have c2 := hel1.c2
      obtain ⟨x0, x1, x2⟩ := hE.three
      have ce := hR.cell (j := 2) rfl
      have hlE := hE.lt
      have hlR := hR.lt
      have hlR1 := hR1.lt
      go_wp2_with fail
      have hex : ExprV (fun b => S b ∧ b < W.heap.size) wr (nthE [x, y] k) (.agg #[.int .i64 (nthE [x, y] k).op, .int .i64 (nthE [x, y] k).num, .slice a' (nthE [x, y] k).args.length c']) := hel.ex.bound.ext hb
      have HK := Lib.hid (negL_length ([x, y].take k))
      have HIH := Lib.hid (ih _ (nthE_mem (l := [x, y]) hlt))
      have IK := Lib.hid (fun W' (hW' : Below wr.heap.size wr W') => HIH.out _ W' _ (hex.ext hW'))
      have hrefl := Below.refl wr.heap.size wr
      have hkl : (negL ([x, y].take k)).length ≤ 1000 := by rw [HK.out, List.length_take]; omega
      have B1 := Lib.hid (show (negL ([x, y].take k)).length + 1 ≤ maxLen by unfold maxLen; omega)
      have B2 := Lib.hid (show ((negL ([x, y].take k)).length + 1) * 40 ≤ 140737488355328 by omega)
      have hbs := hb.size
      have HNE := Lib.hid (show v'.ownBlock ≠ some (wd.heap.size) from fun h => by have := (hA.own_lt _ h).1; omega)
      go_region_law
        (first
          | (go_simp; go_at_call 68; refine (IK.out _ (by first | assumption | (apply Below.drew; assumption))).mono ?_; rintro _ w5 ⟨v5, rfl, hb5, hx5⟩; obtain ⟨a5, c5, rfl, wo5, wn5, _⟩ := hx5.parts; have hbb : Below wr.heap.size wr w5 := ext_trans (by first | assumption | (apply Below.drew; assumption)) hb5; have ce5 := cell_ext ce hbb; have OWN5 := Lib.hid (hA.2.1 |> fun h => owns_ext h hbb); have hl5 : wd.heap.size < w5.heap.size := Nat.lt_of_lt_of_le hR.lt hbb.size)
          | (refine step_append_lies _ (by rfl) _ _ _ (by rfl) (wd.heap.size + 1) 24 i0 _ 3 40 Tryd.underlying22 hi hz0 hz1 hz2 rfl (by decide) v' (negL ([x, y].take k)).length (flat us) (by rfl) (by first | exact OWN5.out.alloc _ | exact (OWN5.out.alloc _).drew) ⟨w5.heap.size, 0, none⟩ 1 1 [.int .i64 (negE (nthE [x, y] k)).op, .int .i64 (negE (nthE [x, y] k)).num, .slice a5 (negE (nthE [x, y] k)).args.length c5] (by rfl) (by rfl)
              (World.news_of_block (cs := #[.int .i64 (negE (nthE [x, y] k)).op, .int .i64 (negE (nthE [x, y] k)).num, .slice a5 (negE (nthE [x, y] k)).args.length c5]) (t := 24) (fr := (0, 0)) (heap_alloc_new w5 _)) (by simp [Value.oneCell']) (by decide) B1.out B2.out (by simp; omega) (w5.heap.size + 1) (by simp) ?_; intro g6 cp6 w6 hown6 hgrow6 hat6 hlt6; have hR6 := Row.grown ((hR.ext hbb).alloc (.cells #[.int .i64 (negE (nthE [x, y] k)).op, .int .i64 (negE (nthE [x, y] k)).num, .slice a5 (negE (nthE [x, y] k)).args.length c5] 24)) hgrow6 HNE.out; have ce6 := hR6.cell (j := 2) rfl; have fr6 := hR6.free 2))
      all_goals
        have HRA := round_args2 (W := W) (base := wd.heap.size + 1) (Bx := wd.heap.size) (by omega) (by omega) (by omega) hb hrefl hbb hR hA (fun b h => h.2) hT hx5 rfl hown6 hgrow6 hat6
        obtain ⟨hb7, hR7, hO7, T7, hA7, hT7⟩ := HRA
        have hE7 := hO7 _ _ _ (by omega) (by omega) hE
        have hR17 := hO7 _ _ _ (by omega) (by omega) hR1
        have HSN := Lib.hid (show negL ([x, y].take (k + 1)) = (negL ([x, y].take k)) ++ [(negE (nthE [x, y] k))] from negL_snoc (xs := [x, y]) hlt)
        rw [← HSN.out] at hA7
        go_wp2
        go_roundw
        case rel => exact ⟨k + 1, by omega, by go_num, hb7, _, _, T7, hE7, hR17, hR7, hA7, hT7⟩
        case measure => simp [intOf]; omega
    · obtain rfl : k = 2 := by omega
      have hX := (hA.expr (op := 11) (num := 0) (by unfold WF; omega) (by unfold WF; omega)).mono (S' := fun b => (S b ∧ b < W.heap.size) ∨ W.heap.size + 2 ≤ b) (by
        rintro b (h | h)
        · rcases hT b h with h | h
          · exact .inl h
          · exact .inr (by omega)
        · have := (hA.own_lt b h).1; exact .inr (by omega))
      obtain ⟨a2, cap2, he2, _⟩ := hX.els
      have he3 : v' = .slice a2 2 cap2 := by have h : Value.agg #[.int .i64 11, .int .i64 0, v'] = .agg #[.int .i64 11, .int .i64 0, .slice a2 2 cap2] := he2; simpa using h
      clear he2
      subst he3
      clear x0 x1 x2
      obtain ⟨e0', e1', e2'⟩ := hR.three
      obtain ⟨x0, x1, x2⟩ := hE.three
      obtain ⟨r0, r1, r2⟩ := hR1.three
      have q0 := hR1.free 0
      have q1 := hR1.free 1
      have q2 := hR1.free 2
      have hlE := hE.lt
      have hlR := hR.lt
      have hlR1 := hR1.lt
      go_wp2
      refine bodyPost_ret (v := .agg #[.int .i64 11, .int .i64 0, .slice a2 2 cap2]) (by simp [results, Tryd.results68, go_sem, r0, r1, r2]) rfl ?_
      rw [show E = _ from HEQ.out.trans (by rfl)]
      exact .mk (set3_below _ _ _ hb (by omega)) (set3_exprU _ _ _ hX (fun hc => by rcases hc with hc | hc; have := hc.2; omega; omega) (fun b hc => by rcases hc with hc | hc; exact .inl hc.1; exact .inr (by omega)))

set_option maxRecDepth 100000 in
set_option maxHeartbeats 8000000 in
theorem rneg_or (x y : Ex) (ih : RNegC x) (ih2 : RNegC y) : RNegC (twoE 11 x y) := by
  intro S W v h
  obtain ⟨a, cap, b, off, a', c', b2, off2, a2, c2, rfl, hel, hel2⟩ := h.two
  obtain ⟨E, hE0⟩ : ∃ E, E = negE (twoE 11 x y) := ⟨_, rfl⟩
  rw [← hE0]
  have HEQ := Lib.hid hE0
  clear hE0
  obtain ⟨w0, hw0⟩ : ∃ w0, w0 = (W.alloc (.cells #[.int .i64 11, .int .i64 0, .slice a 2 cap] 24)).alloc (.cells #[.int .i64 0, .int .i64 0, .slice none 0 0] 24) := ⟨_, rfl⟩
  have e0 : Below W.heap.size W w0 := by rw [hw0]; exact ext_alloc' (ext_alloc W _) _
  have rE : Row w0 W.heap.size 24 [.int .i64 11, .int .i64 0, .slice a 2 cap] := by rw [hw0]; exact (row_new W [.int .i64 11, .int .i64 0, .slice a 2 cap] 24).alloc _
  have rR : Row w0 (W.heap.size + 1) 24 [.int .i64 0, .int .i64 0, .slice none 0 0] := by
    have r2 := row_new (W.alloc (.cells #[.int .i64 11, .int .i64 0, .slice a 2 cap] 24)) [.int .i64 0, .int .i64 0, .slice none 0 0] 24
    rw [World.size_alloc] at r2
    rw [hw0]
    exact r2
  have xE := h.bound.ext e0
  have hl := rE.lt
  have hl2 := rR.lt
  have hel0 := Lib.hid (show ∀ k : Nat, k < 2 → ∃ b off a' c', El S W a 2 cap k (nthE [x, y] k) b off a' c' by
    intro k hk
    have hk2 : k = 0 ∨ k = 1 := by omega
    rcases hk2 with rfl | rfl
    · exact ⟨b, off, a', c', hel⟩
    · exact ⟨b2, off2, a2, c2, hel2⟩)
  have ih : ∀ z ∈ [x, y], RNegC z := by intro z hz; rcases List.mem_cons.1 hz with rfl | hz; exact ih; (obtain rfl : z = y := by simpa using hz); exact ih2
  clear hel hel2
  obtain ⟨i0, hi, hz0, hz1, hz2⟩ := info_parts info_expr3
  obtain ⟨x0, x1, x2⟩ := rE.three
  go_enter Tryd.func68, Tryd.ntmps68
  go_upto_region 1 with fail
  rw [← hw0]
  clear hw0
  go_wp2_with fail
  refine (rdual_calls w0 11 (by omega)).mono ?_
  rintro _ w1 ⟨_, rfl, hb1, rfl⟩
  have hd : dualOp 11 = 10 := rfl
  rw [hd]
  clear x0 x1 x2
  obtain ⟨x0, x1, x2⟩ := (rE.ext hb1).three
  go_wp2_with fail
  refine (rdual_calls w1 11 (by omega)).mono ?_
  rintro _ wd ⟨_, rfl, hb2, rfl⟩
  rw [hd]
  clear x0 x1 x2 hd
  have hbd := ext_trans hb1 hb2
  have ed := ext_trans e0 hbd
  have rE := rE.ext hbd
  have rR := rR.ext hbd
  have hl := rE.lt
  have hl2 := rR.lt
  obtain ⟨x0, x1, x2⟩ := rE.three
  go_wp2
  go_loopw [4] (fun i wr => ∃ k : Nat, k ≤ 2 ∧ i = .int .i64 k ∧ Below W.heap.size W wr ∧ ∃ (v' : Value) (us : List Tri) (T : Nat → Prop), Row wr (W.heap.size) 24 [.int .i64 11, .int .i64 0, .slice a 2 cap] ∧ Row wr (W.heap.size + 1) 24 [.int .i64 0, .int .i64 0, .slice none 0 0] ∧ Row wr (wd.heap.size) 24 [.int .i64 10, .int .i64 0, v'] ∧
      Args3 T (wd.heap.size + 1) wr v' us (negL ([x, y].take k)) ∧ (∀ b, T b → (S b ∧ b < W.heap.size) ∨ wd.heap.size + 1 ≤ b)) (fun i _ => 2 - (intOf i).toNat)
  case atStart =>
    exact ⟨0, by omega, rfl, ext_alloc' ed _, .slice none 0 0, [], fun _ => False, rE.alloc _, rR.alloc _, row_new wd [.int .i64 10, .int .i64 0, .slice none 0 0] _, Args3.nil _ _, fun b h => h.elim⟩
  case round =>
    obtain ⟨k, hk, rfl, hb, v', us, T, hE, hR1, hR, hA, hT⟩ := hrel
    by_cases hlt : k < 2
    · obtain ⟨b, off, a', c', hel⟩ := hel0.out k hlt
      have hel1 := hel.ext hb
      have q := hel1.idx
      have c0 := hel1.c0
      have c1 := hel1.c1
      have c2 := hel1.c2
      obtain ⟨x0, x1, x2⟩ := hE.three
      have ce := hR.cell (j := 2) rfl
      have hlE := hE.lt
      have hlR := hR.lt
      have hlR1 := hR1.lt
      go_wp2_with fail
      have hex : ExprV (fun b => S b ∧ b < W.heap.size) wr (nthE [x, y] k) (.agg #[.int .i64 (nthE [x, y] k).op, .int .i64 (nthE [x, y] k).num, .slice a' (nthE [x, y] k).args.length c']) := hel.ex.bound.ext hb
      have HK := Lib.hid (negL_length ([x, y].take k))
      have HIH := Lib.hid (ih _ (nthE_mem (l := [x, y]) hlt))
      have IK := Lib.hid (fun W' (hW' : Below wr.heap.size wr W') => HIH.out _ W' _ (hex.ext hW'))
      have hrefl := Below.refl wr.heap.size wr
      have hkl : (negL ([x, y].take k)).length ≤ 1000 := by rw [HK.out, List.length_take]; omega
      have B1 := Lib.hid (show (negL ([x, y].take k)).length + 1 ≤ maxLen by unfold maxLen; omega)
      have B2 := Lib.hid (show ((negL ([x, y].take k)).length + 1) * 40 ≤ 140737488355328 by omega)
      have hbs := hb.size
      have HNE := Lib.hid (show v'.ownBlock ≠ some (wd.heap.size) from fun h => by have := (hA.own_lt _ h).1; omega)
      go_region_law
        (first
          | (go_simp; go_at_call 68; refine (IK.out _ (by first | assumption | (apply Below.drew; assumption))).mono ?_; rintro _ w5 ⟨v5, rfl, hb5, hx5⟩; obtain ⟨a5, c5, rfl, wo5, wn5, _⟩ := hx5.parts; have hbb : Below wr.heap.size wr w5 := ext_trans (by first | assumption | (apply Below.drew; assumption)) hb5; have ce5 := cell_ext ce hbb; have OWN5 := Lib.hid (hA.2.1 |> fun h => owns_ext h hbb); have hl5 : wd.heap.size < w5.heap.size := Nat.lt_of_lt_of_le hR.lt hbb.size)
          | (refine step_append_lies _ (by rfl) _ _ _ (by rfl) (wd.heap.size + 1) 24 i0 _ 3 40 Tryd.underlying22 hi hz0 hz1 hz2 rfl (by decide) v' (negL ([x, y].take k)).length (flat us) (by rfl) (by first | exact OWN5.out.alloc _ | exact (OWN5.out.alloc _).drew) ⟨w5.heap.size, 0, none⟩ 1 1 [.int .i64 (negE (nthE [x, y] k)).op, .int .i64 (negE (nthE [x, y] k)).num, .slice a5 (negE (nthE [x, y] k)).args.length c5] (by rfl) (by rfl)
              (World.news_of_block (cs := #[.int .i64 (negE (nthE [x, y] k)).op, .int .i64 (negE (nthE [x, y] k)).num, .slice a5 (negE (nthE [x, y] k)).args.length c5]) (t := 24) (fr := (0, 0)) (heap_alloc_new w5 _)) (by simp [Value.oneCell']) (by decide) B1.out B2.out (by simp; omega) (w5.heap.size + 1) (by simp) ?_; intro g6 cp6 w6 hown6 hgrow6 hat6 hlt6; have hR6 := Row.grown ((hR.ext hbb).alloc (.cells #[.int .i64 (negE (nthE [x, y] k)).op, .int .i64 (negE (nthE [x, y] k)).num, .slice a5 (negE (nthE [x, y] k)).args.length c5] 24)) hgrow6 HNE.out; have ce6 := hR6.cell (j := 2) rfl; have fr6 := hR6.free 2))
      all_goals
        have HRA := round_args2 (W := W) (base := wd.heap.size + 1) (Bx := wd.heap.size) (by omega) (by omega) (by omega) hb hrefl hbb hR hA (fun b h => h.2) hT hx5 rfl hown6 hgrow6 hat6
        obtain ⟨hb7, hR7, hO7, T7, hA7, hT7⟩ := HRA
        have hE7 := hO7 _ _ _ (by omega) (by omega) hE
        have hR17 := hO7 _ _ _ (by omega) (by omega) hR1
        have HSN := Lib.hid (show negL ([x, y].take (k + 1)) = (negL ([x, y].take k)) ++ [(negE (nthE [x, y] k))] from negL_snoc (xs := [x, y]) hlt)
        rw [← HSN.out] at hA7
        go_wp2
        go_roundw
        case rel => exact ⟨k + 1, by omega, by go_num, hb7, _, _, T7, hE7, hR17, hR7, hA7, hT7⟩
        case measure => simp [intOf]; omega
    · obtain rfl : k = 2 := by omega
      have hX := (hA.expr (op := 10) (num := 0) (by unfold WF; omega) (by unfold WF; omega)).mono (S' := fun b => (S b ∧ b < W.heap.size) ∨ W.heap.size + 2 ≤ b) (by
        rintro b (h | h)
        · rcases hT b h with h | h
          · exact .inl h
          · exact .inr (by omega)
        · have := (hA.own_lt b h).1; exact .inr (by omega))
      obtain ⟨a2, cap2, he2, _⟩ := hX.els
      have he3 : v' = .slice a2 2 cap2 := by have h : Value.agg #[.int .i64 10, .int .i64 0, v'] = .agg #[.int .i64 10, .int .i64 0, .slice a2 2 cap2] := he2; simpa using h
      clear he2
      subst he3
      clear x0 x1 x2
      obtain ⟨e0', e1', e2'⟩ := hR.three
      obtain ⟨x0, x1, x2⟩ := hE.three
      obtain ⟨r0, r1, r2⟩ := hR1.three
      have q0 := hR1.free 0
      have q1 := hR1.free 1
      have q2 := hR1.free 2
      have hlE := hE.lt
      have hlR := hR.lt
      have hlR1 := hR1.lt
      go_wp2
      refine bodyPost_ret (v := .agg #[.int .i64 10, .int .i64 0, .slice a2 2 cap2]) (by simp [results, Tryd.results68, go_sem, r0, r1, r2]) rfl ?_
      rw [show E = _ from HEQ.out.trans (by rfl)]
      exact .mk (set3_below _ _ _ hb (by omega)) (set3_exprU _ _ _ hX (fun hc => by rcases hc with hc | hc; have := hc.2; omega; omega) (fun b hc => by rcases hc with hc | hc; exact .inl hc.1; exact .inr (by omega)))

theorem rnegated_all {vars : Int} {e : Ex} (h : Wf vars e) : kindOf e.op = 1 → RNegC e := by
  induction h using Wf.rec4 with
  | hn vars n h => intro hk; simp [numE, Ex.op, kindOf] at hk
  | hv vars n h h1 => intro hk; simp [varE, Ex.op, kindOf] at hk
  | h1 vars op x ho hk hx ih =>
    intro hK
    rcases ho with rfl | rfl | rfl | rfl | rfl | rfl
    · simp [oneE, Ex.op, kindOf] at hK
    · simp [oneE, Ex.op, kindOf] at hK
    · exact rneg_not x
    · exact rneg_all x (ih (hk.trans rfl))
    · exact rneg_some x (ih (hk.trans rfl))
    · simp [oneE, Ex.op, kindOf] at hK
  | h2 vars op x y h4 h11 hk hk2 hx hy ih ih2 =>
    intro hK
    have : op = 4 ∨ op = 5 ∨ op = 6 ∨ op = 7 ∨ op = 8 ∨ op = 9 ∨ op = 10 ∨ op = 11 := by omega
    rcases this with rfl | rfl | rfl | rfl | rfl | rfl | rfl | rfl
    · exact rneg_hears x y
    · simp [twoE, Ex.op, kindOf] at hK
    · simp [twoE, Ex.op, kindOf] at hK
    · exact rneg_equal x y
    · exact rneg_less x y
    · exact rneg_most x y
    · exact rneg_and x y (ih (hk.trans rfl)) (ih2 (hk2.trans rfl))
    · exact rneg_or x y (ih (hk.trans rfl)) (ih2 (hk2.trans rfl))
end Go.Proofs.YtifkkajgcekafaaDoor
