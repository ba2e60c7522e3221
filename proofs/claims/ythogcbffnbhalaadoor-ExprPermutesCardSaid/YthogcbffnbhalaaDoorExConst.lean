/- Expressions that are made: numbers, true, false, one and two arguments. -/
import Derived.Test.YthogcbffnbhalaaDoorExArgs
namespace Go.Proofs.YthogcbffnbhalaaDoor
set_option linter.unusedVariables false
open Go.RowKit
attribute [local go_sem ↓] Go.wp_at_zero Go.wp_at_succ

theorem ExprV.mk2 {S : Nat → Prop} {w : World} {g : Nat} {op : Int} {x y : Ex} {x0 x1 x2 y0 y1 y2 : Value} (hR : Row w g 24 [x0, x1, x2, y0, y1, y2]) (hx : ExprV S w x (.agg #[x0, x1, x2])) (hy : ExprV S w y (.agg #[y0, y1, y2])) (hg : S g) (wo : WF op) :
    ExprV S w (twoE op x y) (.agg #[.int .i64 op, .int .i64 0, .slice (some ⟨g, 0, none⟩) 2 2]) := by
  refine .mk (us := fun j => if j = 0 then .agg #[x0, x1, x2] else .agg #[y0, y1, y2]) wo (by unfold WF; omega) (.inr ⟨g, 0, rfl, hR.lt, hg⟩) (Nat.le_refl _) (by simp [maxLen]) ?_ ?_
  · intro j hj
    have hj2 : j = 0 ∨ j = 1 := by simp at hj; omega
    rcases hj2 with rfl | rfl
    · exact ⟨x0, x1, x2, rfl, hR.cell (j := 0) rfl, hR.cell (j := 1) rfl, hR.cell (j := 2) rfl⟩
    · exact ⟨y0, y1, y2, rfl, hR.cell (j := 3) rfl, hR.cell (j := 4) rfl, hR.cell (j := 5) rfl⟩
  · intro j hj
    have hj2 : j = 0 ∨ j = 1 := by simp at hj; omega
    rcases hj2 with rfl | rfl
    · exact hx
    · exact hy
theorem ExprV.mk1 {S : Nat → Prop} {w : World} {g : Nat} {op : Int} {x : Ex} {x0 x1 x2 : Value} (hR : Row w g 24 [x0, x1, x2]) (hx : ExprV S w x (.agg #[x0, x1, x2])) (hg : S g) (wo : WF op) :
    ExprV S w (oneE op x) (.agg #[.int .i64 op, .int .i64 0, .slice (some ⟨g, 0, none⟩) 1 1]) := by
  refine .mk (us := fun j => .agg #[x0, x1, x2]) wo (by unfold WF; omega) (.inr ⟨g, 0, rfl, hR.lt, hg⟩) (Nat.le_refl _) (by simp [maxLen]) ?_ ?_
  · intro j hj
    obtain rfl : j = 0 := by simp at hj; omega
    exact ⟨x0, x1, x2, rfl, hR.cell (j := 0) rfl, hR.cell (j := 1) rfl, hR.cell (j := 2) rfl⟩
  · intro j hj
    obtain rfl : j = 0 := by simp at hj; omega
    exact hx

theorem number_calls (w : World) (n : Int) : Calls Tryd.prog 57 #[.int .i64 n] w (Post w fun _ r => r = .agg #[.int .i64 0, .int .i64 n, .slice none 0 0]) := by
  go_enter Tryd.func57, Tryd.ntmps57
  go_wp2
  refine bodyPost_ret (v := .agg #[.int .i64 0, .int .i64 n, .slice none 0 0]) (by simp [results, Tryd.results57, go_sem]) rfl ?_
  exact .mk (ext_alloc w _) rfl

theorem refNum_calls (w : World) (n : Int) : Calls Tryd.prog 12 #[.int .i64 n] w (Post w fun _ r => r = .agg #[.int .i64 0, .int .i64 n, .slice none 0 0]) := by
  go_enter Tryd.func12, Tryd.ntmps12
  go_wp2
  refine bodyPost_ret (v := .agg #[.int .i64 0, .int .i64 n, .slice none 0 0]) (by simp [results, Tryd.results12, go_sem]) rfl ?_
  exact .mk (ext_alloc w _) rfl

set_option maxRecDepth 100000 in
theorem refOne_calls {S : Nat → Prop} {w : World} {x : Ex} {v : Value} (h : ExprV S w x v) (op : Int) (wo : WF op) : Calls Tryd.prog 13 #[.int .i64 op, v] w (Post w fun W' r => ExprV (fun b => S b ∨ w.heap.size ≤ b) W' (oneE op x) r) := by
  obtain ⟨a, cap, rfl, _⟩ := h.parts
  have hm := h.mono (S' := fun b => S b ∨ w.heap.size ≤ b) fun b hb => .inl hb
  go_enter Tryd.func13, Tryd.ntmps13
  go_wp2
  refine bodyPost_ret (v := .agg #[.int .i64 op, .int .i64 0, .slice (some ⟨w.heap.size + 2, 0, none⟩) 1 1]) (by simp [results, Tryd.results13, go_sem]) rfl ?_
  have e1 := ext_alloc' (ext_alloc' (ext_alloc w (.cells #[.int .i64 x.op, .int .i64 x.num, .slice a x.args.length cap] 24)) (.cells #[.int .i64 op, .int .i64 0, .slice (some ⟨w.heap.size + 2, 0, none⟩) 1 1] 24)) (.cells #[.int .i64 x.op, .int .i64 x.num, .slice a x.args.length cap] 24)
  have r := row_new ((w.alloc (.cells #[.int .i64 x.op, .int .i64 x.num, .slice a x.args.length cap] 24)).alloc (.cells #[.int .i64 op, .int .i64 0, .slice (some ⟨w.heap.size + 2, 0, none⟩) 1 1] 24)) [.int .i64 x.op, .int .i64 x.num, .slice a x.args.length cap] 24
  rw [World.size_alloc, World.size_alloc] at r
  exact .mk e1 (.mk1 r (hm.ext e1) (.inr (by omega)) wo)

set_option maxRecDepth 100000 in
theorem refTwoE_calls {S : Nat → Prop} {w : World} {x y : Ex} {v v2 : Value} (h : ExprV S w x v) (h2 : ExprV S w y v2) (op : Int) (wo : WF op) : Calls Tryd.prog 14 #[.int .i64 op, v, v2] w (Post w fun W' r => ExprV (fun b => S b ∨ w.heap.size ≤ b) W' (twoE op x y) r) := by
  obtain ⟨a, cap, rfl, _⟩ := h.parts
  obtain ⟨a2, cap2, rfl, _⟩ := h2.parts
  have hm := h.mono (S' := fun b => S b ∨ w.heap.size ≤ b) fun b hb => .inl hb
  have hm2 := h2.mono (S' := fun b => S b ∨ w.heap.size ≤ b) fun b hb => .inl hb
  go_enter Tryd.func14, Tryd.ntmps14
  go_wp2
  refine bodyPost_ret (v := .agg #[.int .i64 op, .int .i64 0, .slice (some ⟨w.heap.size + 3, 0, none⟩) 2 2]) (by simp [results, Tryd.results14, go_sem]) rfl ?_
  have e1 := ext_alloc' (ext_alloc' (ext_alloc' (ext_alloc w (.cells #[.int .i64 x.op, .int .i64 x.num, .slice a x.args.length cap] 24)) (.cells #[.int .i64 y.op, .int .i64 y.num, .slice a2 y.args.length cap2] 24)) (.cells #[.int .i64 op, .int .i64 0, .slice (some ⟨w.heap.size + 3, 0, none⟩) 2 2] 24)) (.cells #[.int .i64 x.op, .int .i64 x.num, .slice a x.args.length cap, .int .i64 y.op, .int .i64 y.num, .slice a2 y.args.length cap2] 24)
  have r := row_new (((w.alloc (.cells #[.int .i64 x.op, .int .i64 x.num, .slice a x.args.length cap] 24)).alloc (.cells #[.int .i64 y.op, .int .i64 y.num, .slice a2 y.args.length cap2] 24)).alloc (.cells #[.int .i64 op, .int .i64 0, .slice (some ⟨w.heap.size + 3, 0, none⟩) 2 2] 24)) [.int .i64 x.op, .int .i64 x.num, .slice a x.args.length cap, .int .i64 y.op, .int .i64 y.num, .slice a2 y.args.length cap2] 24
  rw [World.size_alloc, World.size_alloc, World.size_alloc] at r
  exact .mk e1 (.mk2 r (hm.ext e1) (hm2.ext e1) (.inr (by omega)) wo)

set_option maxRecDepth 100000 in
theorem constant_calls (w : World) (b : Bool) : Calls Tryd.prog 56 #[.bool b] w (Post w fun W' r => ExprV (fun k => w.heap.size + 1 ≤ k) W' (flagE b) r) := by
  have ex1 := ext_alloc w (.cells #[.int .i64 0, .int .i64 0, .slice none 0 0] 24)
  have r1 := row_new w [.int .i64 0, .int .i64 0, .slice none 0 0] 24
  have HZ := Lib.hid (fun W S => ExprV.nilargs S W (op := 0) (num := 0) (by unfold WF; omega) (by unfold WF; omega))
  cases b
  · go_enter Tryd.func56, Tryd.ntmps56
    go_wp2_with fail
    refine (number_calls _ 0).mono ?_
    rintro _ w1 ⟨_, rfl, hb1, rfl⟩
    go_wp2_with fail
    refine (number_calls _ 0).mono ?_
    rintro _ w2 ⟨_, rfl, hb2, rfl⟩
    have e2 := ext_trans (ext_trans ex1 hb1) hb2
    have r2 := (r1.ext hb1).ext hb2
    obtain ⟨c0, c1, c2⟩ := r2.three
    have f0 := r2.free 0
    have f1 := r2.free 1
    have f2 := r2.free 2
    have hl := r2.lt
    go_wp2
    refine bodyPost_ret (v := .agg #[.int .i64 8, .int .i64 0, .slice (some ⟨w2.heap.size, 0, none⟩) 2 2]) (by simp [results, Tryd.results56, go_sem, c0, c1, c2, hl]) rfl ?_
    have e3 := set3_below (.int .i64 8) (.int .i64 0) (.slice (some ⟨w2.heap.size, 0, none⟩) 2 2) e2 (Nat.le_refl _)
    have hr := row_new (((w2.setCell ⟨w.heap.size, 0, none⟩ (.int .i64 8)).setCell ⟨w.heap.size, 1, none⟩ (.int .i64 0)).setCell ⟨w.heap.size, 2, none⟩ (.slice (some ⟨w2.heap.size, 0, none⟩) 2 2)) [.int .i64 0, .int .i64 0, .slice none 0 0, .int .i64 0, .int .i64 0, .slice none 0 0] 24
    rw [World.size_setCell, World.size_setCell, World.size_setCell] at hr
    exact .mk (ext_alloc' e3 _) (ExprV.mk2 (S := fun k => w.heap.size + 1 ≤ k) (op := 8) hr (HZ.out _ _) (HZ.out _ _) (by omega) (by unfold WF; omega))
  · go_enter Tryd.func56, Tryd.ntmps56
    go_wp2_with fail
    refine (number_calls _ 0).mono ?_
    rintro _ w1 ⟨_, rfl, hb1, rfl⟩
    go_wp2_with fail
    refine (number_calls _ 0).mono ?_
    rintro _ w2 ⟨_, rfl, hb2, rfl⟩
    have e2 := ext_trans (ext_trans ex1 hb1) hb2
    have r2 := (r1.ext hb1).ext hb2
    obtain ⟨c0, c1, c2⟩ := r2.three
    have f0 := r2.free 0
    have f1 := r2.free 1
    have f2 := r2.free 2
    have hl := r2.lt
    go_wp2
    refine bodyPost_ret (v := .agg #[.int .i64 7, .int .i64 0, .slice (some ⟨w2.heap.size, 0, none⟩) 2 2]) (by simp [results, Tryd.results56, go_sem, c0, c1, c2, hl]) rfl ?_
    have e3 := set3_below (.int .i64 7) (.int .i64 0) (.slice (some ⟨w2.heap.size, 0, none⟩) 2 2) e2 (Nat.le_refl _)
    have hr := row_new (((w2.setCell ⟨w.heap.size, 0, none⟩ (.int .i64 7)).setCell ⟨w.heap.size, 1, none⟩ (.int .i64 0)).setCell ⟨w.heap.size, 2, none⟩ (.slice (some ⟨w2.heap.size, 0, none⟩) 2 2)) [.int .i64 0, .int .i64 0, .slice none 0 0, .int .i64 0, .int .i64 0, .slice none 0 0] 24
    rw [World.size_setCell, World.size_setCell, World.size_setCell] at hr
    exact .mk (ext_alloc' e3 _) (ExprV.mk2 (S := fun k => w.heap.size + 1 ≤ k) (op := 7) hr (HZ.out _ _) (HZ.out _ _) (by omega) (by unfold WF; omega))

set_option maxRecDepth 100000 in
set_option maxHeartbeats 1000000 in
theorem is_calls {S : Nat → Prop} {w : World} {e : Ex} {v : Value} (h : ExprV S w e v) (b : Bool) : Calls Tryd.prog 58 #[v, .bool b] w (Post w fun _ r => r = .bool (isE e b)) := by
  obtain ⟨a, cap, rfl, _⟩ := h.parts
  have ex1 := ext_alloc w (.cells #[.int .i64 e.op, .int .i64 e.num, .slice a e.args.length cap] 24)
  have r1 := row_new w [.int .i64 e.op, .int .i64 e.num, .slice a e.args.length cap] 24
  go_enter Tryd.func58, Tryd.ntmps58
  go_wp2_with fail
  obtain ⟨w1, hw1⟩ : ∃ w1, w1 = w.alloc (.cells #[.int .i64 e.op, .int .i64 e.num, .slice a e.args.length cap] 24) := ⟨_, rfl⟩
  rw [← hw1]
  rw [← hw1] at ex1
  have r1' : Row w1 w.heap.size 24 [.int .i64 e.op, .int .i64 e.num, .slice a e.args.length cap] := by rw [hw1]; exact r1
  have HE := Lib.hid (h.ext ex1)
  clear hw1 r1
  obtain ⟨x0, x1, x2⟩ := r1'.three
  have hrefl := Below.refl w1.heap.size w1
  have KEEP : ∀ W', Below w1.heap.size w1 W' → (fun w' : World => w'.cell? ⟨w.heap.size, 0, none⟩ = some (.int .i64 e.op) ∧ w'.cell? ⟨w.heap.size, 1, none⟩ = some (.int .i64 e.num) ∧ w'.cell? ⟨w.heap.size, 2, none⟩ = some (.slice a e.args.length cap) ∧ Below w1.heap.size w1 w') W' := fun W' hW' => ⟨cell_ext x0 hW', cell_ext x1 hW', cell_ext x2 hW', hW'⟩
  have KEEP := Lib.hid KEEP
  go_region_held3 (fun w' : World => w'.cell? ⟨w.heap.size, 0, none⟩ = some (.int .i64 e.op) ∧ w'.cell? ⟨w.heap.size, 1, none⟩ = some (.int .i64 e.num) ∧ w'.cell? ⟨w.heap.size, 2, none⟩ = some (.slice a e.args.length cap) ∧ Below w1.heap.size w1 w')
    (first | (apply KEEP.out; first | assumption | (apply Below.drew; assumption)))
    (first | (go_at_call 56; refine (constant_calls _ b).mono ?_; rintro _ w2 ⟨v2, rfl, hb2, hx2⟩; have hbb : Below w1.heap.size w1 w2 := ext_trans (by (first | assumption | (apply Below.drew; assumption))) hb2) | (go_at_call 23; refine (same_calls (HE.out.ext hbb) hx2 _ (.refl _ _)).mono ?_; rintro _ w3 ⟨_, rfl, hb3, rfl⟩; have hbb3 : Below w1.heap.size w1 w3 := ext_trans (by (first | assumption | (apply Below.drew; assumption))) hb3))
  go_wp2
  go_ret
  exact .mk (ext_trans ex1 hbb3) (bool_eq rfl)

end Go.Proofs.YthogcbffnbhalaaDoor

