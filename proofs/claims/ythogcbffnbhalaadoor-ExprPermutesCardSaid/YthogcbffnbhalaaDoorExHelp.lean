/- The small functions of the statements' package. -/
import Derived.Test.YthogcbffnbhalaaDoorExTop
namespace Go.Proofs.YthogcbffnbhalaaDoor
set_option linter.unusedVariables false
open Go.RowKit
attribute [local go_sem ↓] Go.wp_at_zero Go.wp_at_succ

theorem set3_exprT {R : Nat} {S S' : Nat → Prop} {w : World} {e : Ex} {v : Value} (u0 u1 u2 : Value) (h : ExprV S w e v) (hR : ¬ S R) (hS : ∀ b, S b → S' b) : ExprV S' (((w.setCell ⟨R, 0, none⟩ u0).setCell ⟨R, 1, none⟩ u1).setCell ⟨R, 2, none⟩ u2) e v := by
  have hne : ∀ b, S b → some R ≠ some b := fun b hb e => by cases e; exact hR hb
  exact (h.agree (((Agree.of_grown (grownBy_setCell w R 0 u0) hne).trans (.of_grown (grownBy_setCell _ R 1 u1) hne)).trans (.of_grown (grownBy_setCell _ R 2 u2) hne))).mono hS
theorem refTwoE2_calls {S S2 : Nat → Prop} {w : World} {x y : Ex} {v v2 : Value} (h : ExprV S w x v) (h2 : ExprV S2 w y v2) (op : Int) (wo : WF op) : Calls Tryd.prog 14 #[.int .i64 op, v, v2] w (Post w fun W' r => ExprV (fun b => S b ∨ S2 b ∨ w.heap.size ≤ b) W' (twoE op x y) r) := by
  refine (refTwoE_calls (h.mono (S' := fun b => S b ∨ S2 b) fun b hb => .inl hb) (h2.mono fun b hb => .inr hb) op wo).mono ?_
  rintro _ _ ⟨v, rfl, hb, hx⟩
  exact ⟨v, rfl, hb, hx.mono (by rintro b ((h | h) | h); exact .inl h; exact .inr (.inl h); exact .inr (.inr h))⟩

theorem v_calls (w : World) (n : Int) : Calls Tryd.prog 17 #[.int .i64 n] w (Post w fun _ r => r = .agg #[.int .i64 1, .int .i64 n, .slice none 0 0]) := by
  go_enter Tryd.func17, Tryd.ntmps17
  go_wp2
  refine bodyPost_ret (v := .agg #[.int .i64 1, .int .i64 n, .slice none 0 0]) (by simp [results, Tryd.results17, go_sem]) rfl ?_
  exact .mk (ext_alloc w _) rfl

set_option maxRecDepth 100000 in
theorem in_calls {S : Nat → Prop} {w : World} {x : Ex} {v : Value} (h : ExprV S w x v) : Calls Tryd.prog 18 #[v] w (Post w fun W' r => ExprV (fun b => S b ∨ w.heap.size ≤ b) W' (oneE 2 x) r) := by
  have hb0 := h.bound
  obtain ⟨a, cap, rfl, _⟩ := h.parts
  have ex := ext_alloc' (ext_alloc w (.cells #[.int .i64 x.op, .int .i64 x.num, .slice a x.args.length cap] 24)) (.cells #[.int .i64 0, .int .i64 0, .slice none 0 0] 24)
  have rr := row_new (w.alloc (.cells #[.int .i64 x.op, .int .i64 x.num, .slice a x.args.length cap] 24)) [.int .i64 0, .int .i64 0, .slice none 0 0] 24
  rw [World.size_alloc] at rr
  have HONE := Lib.hid (refOne_calls (hb0.ext ex) 2 (by unfold WF; omega))
  go_enter Tryd.func18, Tryd.ntmps18
  go_wp2_with fail
  refine HONE.out.mono ?_
  rintro _ w1 ⟨v1, rfl, hb1, hx1⟩
  obtain ⟨X, hX⟩ : ∃ X, X = oneE 2 x := ⟨_, rfl⟩
  rw [← hX] at hx1
  have HX := Lib.hid hX
  clear hX
  obtain ⟨a1, c1, rfl, _⟩ := hx1.parts
  have r1 := rr.ext hb1
  obtain ⟨r0, r1', r2⟩ := r1.three
  have q0 := r1.free 0
  have q1 := r1.free 1
  have q2 := r1.free 2
  go_wp2
  refine bodyPost_ret (v := .agg #[.int .i64 X.op, .int .i64 X.num, .slice a1 X.args.length c1]) (by simp [results, Tryd.results18, go_sem, r0, r1', r2]) rfl ?_
  rw [← HX.out]
  exact .mk (set3_below _ _ _ (ext_trans ex hb1) (by omega)) (set3_exprT _ _ _ hx1 (by rintro (h | h); have := h.2; omega; simp at h; omega) (by rintro b (h | h); exact .inl h.1; simp at h; exact .inr (by omega)))

set_option maxRecDepth 100000 in
theorem out_calls {S : Nat → Prop} {w : World} {x : Ex} {v : Value} (h : ExprV S w x v) : Calls Tryd.prog 16 #[v] w (Post w fun W' r => ExprV (fun b => S b ∨ w.heap.size ≤ b) W' (oneE 3 x) r) := by
  have hb0 := h.bound
  obtain ⟨a, cap, rfl, _⟩ := h.parts
  have ex := ext_alloc' (ext_alloc w (.cells #[.int .i64 x.op, .int .i64 x.num, .slice a x.args.length cap] 24)) (.cells #[.int .i64 0, .int .i64 0, .slice none 0 0] 24)
  have rr := row_new (w.alloc (.cells #[.int .i64 x.op, .int .i64 x.num, .slice a x.args.length cap] 24)) [.int .i64 0, .int .i64 0, .slice none 0 0] 24
  rw [World.size_alloc] at rr
  have HONE := Lib.hid (refOne_calls (hb0.ext ex) 3 (by unfold WF; omega))
  go_enter Tryd.func16, Tryd.ntmps16
  go_wp2_with fail
  refine HONE.out.mono ?_
  rintro _ w1 ⟨v1, rfl, hb1, hx1⟩
  obtain ⟨X, hX⟩ : ∃ X, X = oneE 3 x := ⟨_, rfl⟩
  rw [← hX] at hx1
  have HX := Lib.hid hX
  clear hX
  obtain ⟨a1, c1, rfl, _⟩ := hx1.parts
  have r1 := rr.ext hb1
  obtain ⟨r0, r1', r2⟩ := r1.three
  have q0 := r1.free 0
  have q1 := r1.free 1
  have q2 := r1.free 2
  go_wp2
  refine bodyPost_ret (v := .agg #[.int .i64 X.op, .int .i64 X.num, .slice a1 X.args.length c1]) (by simp [results, Tryd.results16, go_sem, r0, r1', r2]) rfl ?_
  rw [← HX.out]
  exact .mk (set3_below _ _ _ (ext_trans ex hb1) (by omega)) (set3_exprT _ _ _ hx1 (by rintro (h | h); have := h.2; omega; simp at h; omega) (by rintro b (h | h); exact .inl h.1; simp at h; exact .inr (by omega)))

set_option maxRecDepth 100000 in
theorem isL_calls {S S' : Nat → Prop} {w : World} {x y : Ex} {v v2 : Value} (h : ExprV S w x v) (h2 : ExprV S' w y v2) : Calls Tryd.prog 15 #[v, v2] w (Post w fun W' r => ExprV (fun b => S b ∨ S' b ∨ w.heap.size ≤ b) W' (twoE 7 x y) r) := by
  have hb0 := h.bound
  have hb02 := h2.bound
  obtain ⟨a, cap, rfl, _⟩ := h.parts
  obtain ⟨a2, cap2, rfl, _⟩ := h2.parts
  have ex := ext_alloc' (ext_alloc' (ext_alloc w (.cells #[.int .i64 x.op, .int .i64 x.num, .slice a x.args.length cap] 24)) (.cells #[.int .i64 y.op, .int .i64 y.num, .slice a2 y.args.length cap2] 24)) (.cells #[.int .i64 0, .int .i64 0, .slice none 0 0] 24)
  have rr := row_new ((w.alloc (.cells #[.int .i64 x.op, .int .i64 x.num, .slice a x.args.length cap] 24)).alloc (.cells #[.int .i64 y.op, .int .i64 y.num, .slice a2 y.args.length cap2] 24)) [.int .i64 0, .int .i64 0, .slice none 0 0] 24
  rw [World.size_alloc, World.size_alloc] at rr
  have HONE := Lib.hid (refTwoE2_calls (hb0.ext ex) (hb02.ext ex) 7 (by unfold WF; omega))
  go_enter Tryd.func15, Tryd.ntmps15
  go_wp2_with fail
  refine HONE.out.mono ?_
  rintro _ w1 ⟨v1, rfl, hb1, hx1⟩
  obtain ⟨X, hX⟩ : ∃ X, X = twoE 7 x y := ⟨_, rfl⟩
  rw [← hX] at hx1
  have HX := Lib.hid hX
  clear hX
  obtain ⟨a1, c1, rfl, _⟩ := hx1.parts
  have r1 := rr.ext hb1
  obtain ⟨r0, r1', r2⟩ := r1.three
  have q0 := r1.free 0
  have q1 := r1.free 1
  have q2 := r1.free 2
  go_wp2
  refine bodyPost_ret (v := .agg #[.int .i64 X.op, .int .i64 X.num, .slice a1 X.args.length c1]) (by simp [results, Tryd.results15, go_sem, r0, r1', r2]) rfl ?_
  rw [← HX.out]
  exact .mk (set3_below _ _ _ (ext_trans ex hb1) (by omega)) (set3_exprT _ _ _ hx1 (by rintro (h | h | h); have := h.2; omega; have := h.2; omega; simp at h; omega) (by rintro b (h | h | h); exact .inl h.1; exact .inr (.inl h.1); simp at h; exact .inr (.inr (by omega))))

def scA : Sc := ⟨3, [0, 1, 1], [1, 1, -1], [3, 7, 4, 0, 0], []⟩
set_option maxRecDepth 100000 in
theorem scene_calls (w : World) : Calls Tryd.prog 11 #[] w (Post w fun W' r => ∃ g1 g2, r = .agg #[.int .i64 3, .slice (some ⟨g1, 0, none⟩) 3 3, .slice (some ⟨g2, 0, none⟩) 3 3, .int .i64 3, .int .i64 7, .int .i64 4, .int .i64 0, .int .i64 0, .slice none 0 0] ∧ ScV (fun _ => True) W' scA r) := by
  go_enter Tryd.func11, Tryd.ntmps11
  go_wp2
  refine bodyPost_ret (v := .agg #[.int .i64 3, .slice (some ⟨w.heap.size + 1, 0, none⟩) 3 3, .slice (some ⟨w.heap.size + 2, 0, none⟩) 3 3, .int .i64 3, .int .i64 7, .int .i64 4, .int .i64 0, .int .i64 0, .slice none 0 0]) (by simp [results, Tryd.results11, go_sem]) rfl ?_
  refine .mk (ext_alloc' (ext_alloc' (ext_alloc w _) _) _) ⟨_, _, rfl, _, _, _, _, _, _, _, _, rfl, rfl, ?_, ?_, .nil _ _⟩
  · have h := (row_new (w.alloc (.cells #[.int .i64 3, .slice (some ⟨w.heap.size + 1, 0, none⟩) 3 3, .slice (some ⟨w.heap.size + 2, 0, none⟩) 3 3, .int .i64 3, .int .i64 7, .int .i64 4, .int .i64 0, .int .i64 0, .slice none 0 0] 28)) [.int .i64 0, .int .i64 1, .int .i64 1] 3).alloc (.cells #[.int .i64 1, .int .i64 1, .int .i64 (-1)] 3)
    rw [World.size_alloc] at h
    exact (Row.ints (l := [0, 1, 1]) h (by simp [maxLen]) (by intro y hy; simp at hy; unfold WF; omega)).all
  · have h := row_new ((w.alloc (.cells #[.int .i64 3, .slice (some ⟨w.heap.size + 1, 0, none⟩) 3 3, .slice (some ⟨w.heap.size + 2, 0, none⟩) 3 3, .int .i64 3, .int .i64 7, .int .i64 4, .int .i64 0, .int .i64 0, .slice none 0 0] 28)).alloc (.cells #[.int .i64 0, .int .i64 1, .int .i64 1] 3)) [.int .i64 1, .int .i64 1, .int .i64 (-1)] 3
    rw [World.size_alloc, World.size_alloc] at h
    exact (Row.ints (l := [1, 1, -1]) h (by simp [maxLen]) (by intro y hy; simp at hy; unfold WF; omega)).all

end Go.Proofs.YthogcbffnbhalaaDoor

