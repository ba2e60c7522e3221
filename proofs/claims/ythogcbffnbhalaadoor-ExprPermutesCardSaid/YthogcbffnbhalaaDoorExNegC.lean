/- The program's negated. -/
import Derived.Test.YthogcbffnbhalaaDoorExDual
import Derived.Test.YthogcbffnbhalaaDoorExArgs2
namespace Go.Proofs.YthogcbffnbhalaaDoor
set_option linter.unusedVariables false
open Go.RowKit
attribute [local go_sem ↓] Go.wp_at_zero Go.wp_at_succ

theorem cell_sa {w : World} {b o g j : Nat} {v u : Value} {ob : Obj} (h : w.cell? ⟨b, o, none⟩ = some v) (hne : b ≠ g) : ((w.setCell ⟨g, j, none⟩ u).alloc ob).cell? ⟨b, o, none⟩ = some v := by
  have h1 : (w.setCell ⟨g, j, none⟩ u).cell? ⟨b, o, none⟩ = some v := (World.cell?_of_block (heap_setCell_other w ⟨g, j, none⟩ b u (fun e => hne e))).trans h
  exact cell_ext h1 (ext_alloc _ _)
def NegC (e : Ex) : Prop := ∀ (S : Nat → Prop) (W : World) (v : Value), Tab W → ExprV S W e v → Calls Tryd.prog 35 #[v] W (Post W fun W' r => ExprV (fun b => S b ∨ W.heap.size ≤ b) W' (negE e) r)
theorem negL_snoc {xs : List Ex} {k : Nat} (h : k < xs.length) : negL (xs.take (k + 1)) = negL (xs.take k) ++ [negE (nthE xs k)] := by rw [take_nthE h, negL_map, negL_map, List.map_append]; rfl
/-- The result's cell, beside blocks that came in. -/
theorem set3_expr2 {R base : Nat} {S0 : Nat → Prop} {w : World} {e : Ex} {v : Value} (u0 u1 u2 : Value) (h : ExprV (fun b => S0 b ∨ base ≤ b) w e v) (hR : R < base) (hS : ¬ S0 R) : ExprV (fun b => S0 b ∨ base ≤ b) (((w.setCell ⟨R, 0, none⟩ u0).setCell ⟨R, 1, none⟩ u1).setCell ⟨R, 2, none⟩ u2) e v := by
  have hne : ∀ b, S0 b ∨ base ≤ b → some R ≠ some b := by
    rintro b (hb | hb) e
    · cases e; exact hS hb
    · cases e; omega
  exact h.agree (((Agree.of_grown (grownBy_setCell w R 0 u0) hne).trans (.of_grown (grownBy_setCell _ R 1 u1) hne)).trans (.of_grown (grownBy_setCell _ R 2 u2) hne))

set_option maxRecDepth 100000 in
set_option maxHeartbeats 8000000 in
theorem negC_not (x : Ex) : NegC (oneE 12 x) := by
  intro S W v hT hv
  obtain ⟨a, cap, xb, xo, xa, xc, rfl, hel⟩ := hv.one
  have ex0 := ext_alloc' (ext_alloc W (.cells #[.int .i64 12, .int .i64 0, .slice a 1 cap] 24)) (.cells #[.int .i64 0, .int .i64 0, .slice none 0 0] 24)
  have rE := (row_new W [.int .i64 12, .int .i64 0, .slice a 1 cap] 24).alloc (.cells #[.int .i64 0, .int .i64 0, .slice none 0 0] 24)
  have rR := row_new (W.alloc (.cells #[.int .i64 12, .int .i64 0, .slice a 1 cap] 24)) [.int .i64 0, .int .i64 0, .slice none 0 0] 24
  rw [World.size_alloc] at rR
  obtain ⟨NE, hNE⟩ : ∃ NE, NE = negE (oneE 12 x) := ⟨_, rfl⟩
  rw [← hNE]
  have HNE := Lib.hid hNE
  clear hNE
  have q := hel.idx
  have d0 := (hel.ext ex0).c0
  have d1 := (hel.ext ex0).c1
  have d2 := (hel.ext ex0).c2
  have nx := World.block_lt_of_cell? W _ hel.c0
  go_enter Tryd.func35, Tryd.ntmps35
  go_wp2
  refine bodyPost_ret (v := .agg #[.int .i64 x.op, .int .i64 x.num, .slice xa x.args.length xc]) (by simp [results, Tryd.results35, go_sem]) rfl ?_
  rw [show NE = x from HNE.out.trans (neg_not x)]
  have exF := ext_alloc' (ext_alloc W (.cells #[.int .i64 12, .int .i64 0, .slice a 1 cap] 24)) (.cells #[.int .i64 x.op, .int .i64 x.num, .slice xa x.args.length xc] 24)
  exact .mk exF ((hel.ex.ext exF).mono fun b h => .inl h)

set_option maxRecDepth 100000 in
set_option maxHeartbeats 8000000 in
theorem negC_one4 (x y : Ex) : NegC (twoE 4 x y) := by
  intro S W v hT hv
  obtain ⟨a, cap, xb, xo, xa, xc, yb, yo, ya, yc, rfl, hel, hel2⟩ := hv.two
  have ex0 := ext_alloc' (ext_alloc W (.cells #[.int .i64 4, .int .i64 0, .slice a 2 cap] 24)) (.cells #[.int .i64 0, .int .i64 0, .slice none 0 0] 24)
  have rE := (row_new W [.int .i64 4, .int .i64 0, .slice a 2 cap] 24).alloc (.cells #[.int .i64 0, .int .i64 0, .slice none 0 0] 24)
  have rR := row_new (W.alloc (.cells #[.int .i64 4, .int .i64 0, .slice a 2 cap] 24)) [.int .i64 0, .int .i64 0, .slice none 0 0] 24
  rw [World.size_alloc] at rR
  obtain ⟨NE, hNE⟩ : ∃ NE, NE = negE (twoE 4 x y) := ⟨_, rfl⟩
  rw [← hNE]
  have HNE := Lib.hid hNE
  clear hNE
  go_enter Tryd.func35, Tryd.ntmps35
  go_wp2_with fail
  refine (dual_calls (hT.ext ex0) 4 (by omega)).mono ?_
  rintro _ wd ⟨_, rfl, hbd, rfl⟩
  have ed := ext_trans ex0 hbd
  have rE1 := rE.ext hbd
  have rR1 := rR.ext hbd
  have lE := rE1.lt
  have lR := rR1.lt
  have TD := hT.ext ed
  have dC : dualC 4 = 4 := rfl
  have dO : dualOk 4 = false := rfl
  rw [dC, dO]
  clear dC dO
  obtain ⟨e0, e1, e2⟩ := rE1.three
  obtain ⟨r0, r1, r2⟩ := rR1.three
  have q0 := rR1.free 0
  have q1 := rR1.free 1
  have q2 := rR1.free 2
  go_wp2
  have e3 := set3_below (R := W.heap.size + 1) (.int .i64 12) (.int .i64 0) (.slice (some ⟨wd.heap.size, 0, none⟩) 1 1) ed (by omega)
  refine bodyPost_ret (v := .agg #[.int .i64 12, .int .i64 0, .slice (some ⟨wd.heap.size, 0, none⟩) 1 1]) (by simp [results, Tryd.results35, go_sem, r0, r1, r2, lR]) rfl ?_
  rw [show NE = oneE 12 (twoE 4 x y) from HNE.out.trans (by rfl)]
  have hr := row_new (((wd.setCell ⟨W.heap.size + 1, 0, none⟩ (.int .i64 12)).setCell ⟨W.heap.size + 1, 1, none⟩ (.int .i64 0)).setCell ⟨W.heap.size + 1, 2, none⟩ (.slice (some ⟨wd.heap.size, 0, none⟩) 1 1)) [.int .i64 4, .int .i64 0, .slice a 2 cap] 24
  rw [World.size_setCell, World.size_setCell, World.size_setCell] at hr
  have ef := ext_alloc' e3 (.cells [.int .i64 4, .int .i64 0, .slice a 2 cap].toArray 24)
  exact .mk ef (ExprV.mk1 (S := fun b => S b ∨ W.heap.size ≤ b) hr ((hv.ext ef).mono fun b h => .inl h) (.inr (by omega)) (by unfold WF; omega))

set_option maxRecDepth 100000 in
set_option maxHeartbeats 8000000 in
theorem negC_one7 (x y : Ex) : NegC (twoE 7 x y) := by
  intro S W v hT hv
  obtain ⟨a, cap, xb, xo, xa, xc, yb, yo, ya, yc, rfl, hel, hel2⟩ := hv.two
  have ex0 := ext_alloc' (ext_alloc W (.cells #[.int .i64 7, .int .i64 0, .slice a 2 cap] 24)) (.cells #[.int .i64 0, .int .i64 0, .slice none 0 0] 24)
  have rE := (row_new W [.int .i64 7, .int .i64 0, .slice a 2 cap] 24).alloc (.cells #[.int .i64 0, .int .i64 0, .slice none 0 0] 24)
  have rR := row_new (W.alloc (.cells #[.int .i64 7, .int .i64 0, .slice a 2 cap] 24)) [.int .i64 0, .int .i64 0, .slice none 0 0] 24
  rw [World.size_alloc] at rR
  obtain ⟨NE, hNE⟩ : ∃ NE, NE = negE (twoE 7 x y) := ⟨_, rfl⟩
  rw [← hNE]
  have HNE := Lib.hid hNE
  clear hNE
  go_enter Tryd.func35, Tryd.ntmps35
  go_wp2_with fail
  refine (dual_calls (hT.ext ex0) 7 (by omega)).mono ?_
  rintro _ wd ⟨_, rfl, hbd, rfl⟩
  have ed := ext_trans ex0 hbd
  have rE1 := rE.ext hbd
  have rR1 := rR.ext hbd
  have lE := rE1.lt
  have lR := rR1.lt
  have TD := hT.ext ed
  have dC : dualC 7 = 7 := rfl
  have dO : dualOk 7 = false := rfl
  rw [dC, dO]
  clear dC dO
  obtain ⟨e0, e1, e2⟩ := rE1.three
  obtain ⟨r0, r1, r2⟩ := rR1.three
  have q0 := rR1.free 0
  have q1 := rR1.free 1
  have q2 := rR1.free 2
  go_wp2
  have e3 := set3_below (R := W.heap.size + 1) (.int .i64 12) (.int .i64 0) (.slice (some ⟨wd.heap.size, 0, none⟩) 1 1) ed (by omega)
  refine bodyPost_ret (v := .agg #[.int .i64 12, .int .i64 0, .slice (some ⟨wd.heap.size, 0, none⟩) 1 1]) (by simp [results, Tryd.results35, go_sem, r0, r1, r2, lR]) rfl ?_
  rw [show NE = oneE 12 (twoE 7 x y) from HNE.out.trans (by rfl)]
  have hr := row_new (((wd.setCell ⟨W.heap.size + 1, 0, none⟩ (.int .i64 12)).setCell ⟨W.heap.size + 1, 1, none⟩ (.int .i64 0)).setCell ⟨W.heap.size + 1, 2, none⟩ (.slice (some ⟨wd.heap.size, 0, none⟩) 1 1)) [.int .i64 7, .int .i64 0, .slice a 2 cap] 24
  rw [World.size_setCell, World.size_setCell, World.size_setCell] at hr
  have ef := ext_alloc' e3 (.cells [.int .i64 7, .int .i64 0, .slice a 2 cap].toArray 24)
  exact .mk ef (ExprV.mk1 (S := fun b => S b ∨ W.heap.size ≤ b) hr ((hv.ext ef).mono fun b h => .inl h) (.inr (by omega)) (by unfold WF; omega))

set_option maxRecDepth 100000 in
set_option maxHeartbeats 8000000 in
theorem negC_swap8 (x y : Ex) : NegC (twoE 8 x y) := by
  intro S W v hT hv
  obtain ⟨a, cap, xb, xo, xa, xc, yb, yo, ya, yc, rfl, hel, hel2⟩ := hv.two
  have ex0 := ext_alloc' (ext_alloc W (.cells #[.int .i64 8, .int .i64 0, .slice a 2 cap] 24)) (.cells #[.int .i64 0, .int .i64 0, .slice none 0 0] 24)
  have rE := (row_new W [.int .i64 8, .int .i64 0, .slice a 2 cap] 24).alloc (.cells #[.int .i64 0, .int .i64 0, .slice none 0 0] 24)
  have rR := row_new (W.alloc (.cells #[.int .i64 8, .int .i64 0, .slice a 2 cap] 24)) [.int .i64 0, .int .i64 0, .slice none 0 0] 24
  rw [World.size_alloc] at rR
  obtain ⟨NE, hNE⟩ : ∃ NE, NE = negE (twoE 8 x y) := ⟨_, rfl⟩
  rw [← hNE]
  have HNE := Lib.hid hNE
  clear hNE
  have q := hel.idx
  have q2 := hel2.idx
  go_enter Tryd.func35, Tryd.ntmps35
  go_wp2_with fail
  refine (dual_calls (hT.ext ex0) 8 (by omega)).mono ?_
  rintro _ wd ⟨_, rfl, hbd, rfl⟩
  have ed := ext_trans ex0 hbd
  have rE1 := rE.ext hbd
  have rR1 := rR.ext hbd
  have lE := rE1.lt
  have lR := rR1.lt
  have TD := hT.ext ed
  have dC : dualC 8 = 9 := rfl
  have dO : dualOk 8 = true := rfl
  rw [dC, dO]
  clear dC dO
  obtain ⟨e0, e1, e2⟩ := rE1.three
  have t1 := TD.of 9 (by omega) (by omega)
  have ak : argKind 9 = 0 := rfl
  rw [ak] at t1
  have t2 : wd.cell? ⟨0, 29, none⟩ = some (.int .i64 0) := t1
  clear t1 ak
  have qt := idx_rows (op := 9) (by omega) (by omega)
  have qt' : ∀ W, (Instr.indexAt 62 (.pointer (some ⟨0, 0, none⟩)) (.int .i64 9)).run Tryd.prog W = .ok (.pointer (some ⟨0, 27, none⟩)) W := qt
  clear qt
  have hp0 := TD.pos
  have hl0 : 0 < wd.heap.size := by omega
  go_wp2_with fail
  obtain ⟨w1, hw1⟩ : ∃ w1, w1 = wd.alloc (.cells #[.int .i64 9, .int .i64 0, .slice none 0 0] 24) := ⟨_, rfl⟩
  rw [← hw1]
  have hb1 : Below wd.heap.size wd w1 := by rw [hw1]; exact ext_alloc wd _
  have rO : Row w1 wd.heap.size 24 [.int .i64 9, .int .i64 0, .slice none 0 0] := by rw [hw1]; exact row_new wd _ _
  clear hw1 e0 e1 e2 t2
  have ew := ext_trans ed hb1
  obtain ⟨e0, e1, e2⟩ := (rE1.ext hb1).three
  have d0 := (hel.ext ew).c0
  have d1 := (hel.ext ew).c1
  have d2 := (hel.ext ew).c2
  have g0 := (hel2.ext ew).c0
  have g1 := (hel2.ext ew).c1
  have g2 := (hel2.ext ew).c2
  obtain ⟨o0, o1, o2⟩ := rO.three
  have oF := rO.free 2
  have lO := rO.lt
  have n1 := World.new_ne w1 _ e2
  have n2 := World.new_ne w1 _ d0
  have n3 := World.new_ne w1 _ d1
  have n4 := World.new_ne w1 _ d2
  have n5 := World.new_ne w1 _ g0
  have n6 := World.new_ne w1 _ g1
  have n7 := World.new_ne w1 _ g2
  have nE : W.heap.size ≠ wd.heap.size := by omega
  have nX : xb ≠ wd.heap.size := by have := World.block_lt_of_cell? W _ hel.c0; have := ed.size; simp at *; omega
  have nY : yb ≠ wd.heap.size := by have := World.block_lt_of_cell? W _ hel2.c0; have := ed.size; simp at *; omega
  go_region_held3 (fun w' : World => w'.cell? ⟨W.heap.size, 2, none⟩ = some (.slice a 2 cap) ∧ w'.cell? ⟨xb, xo, none⟩ = some (.int .i64 x.op) ∧ w'.cell? ⟨xb, xo + 1, none⟩ = some (.int .i64 x.num) ∧ w'.cell? ⟨xb, xo + 2, none⟩ = some (.slice xa x.args.length xc) ∧ w'.cell? ⟨yb, yo, none⟩ = some (.int .i64 y.op) ∧ w'.cell? ⟨yb, yo + 1, none⟩ = some (.int .i64 y.num) ∧ w'.cell? ⟨yb, yo + 2, none⟩ = some (.slice ya y.args.length yc)) (first | exact ⟨cell_sa e2 nE, cell_sa d0 nX, cell_sa d1 nX, cell_sa d2 nX, cell_sa g0 nY, cell_sa g1 nY, cell_sa g2 nY⟩ | go_keep) (fail)
  obtain ⟨w2, hw2⟩ : ∃ w2, w2 = ((w1.setCell ⟨wd.heap.size, 2, none⟩ (.slice (some ⟨w1.heap.size, 0, none⟩) 2 2)).alloc (.cells #[.int .i64 y.op, .int .i64 y.num, .slice ya y.args.length yc, .int .i64 x.op, .int .i64 x.num, .slice xa x.args.length xc] 24)).drew := ⟨_, rfl⟩
  rw [← hw2]
  have hb2 : Below wd.heap.size wd w2 := by rw [hw2]; exact ((hb1.setCell (by simp) _).alloc (by have := hb1.size; simp; omega) _).drew
  have rO2 : Row w2 wd.heap.size 24 [.int .i64 9, .int .i64 0, .slice (some ⟨w1.heap.size, 0, none⟩) 2 2] := by rw [hw2]; exact (rO.set 2 _).alloc _
  have rG : Row w2 w1.heap.size 24 [.int .i64 y.op, .int .i64 y.num, .slice ya y.args.length yc, .int .i64 x.op, .int .i64 x.num, .slice xa x.args.length xc] := by
    rw [hw2]
    have h := row_new (w1.setCell ⟨wd.heap.size, 2, none⟩ (.slice (some ⟨w1.heap.size, 0, none⟩) 2 2)) [.int .i64 y.op, .int .i64 y.num, .slice ya y.args.length yc, .int .i64 x.op, .int .i64 x.num, .slice xa x.args.length xc] 24
    rw [World.size_setCell] at h
    exact h
  clear hw2
  have e2' := ext_trans ed hb2
  have s1 := hb1.size
  have rR2 := rR1.ext hb2
  clear e0 e1 e2 o0 o1 o2 oF d0 d1 d2 g0 g1 g2 n1 n2 n3 n4 n5 n6 n7
  obtain ⟨o0, o1, o2⟩ := rO2.three
  obtain ⟨r0, r1, r2⟩ := rR2.three
  have q0 := rR2.free 0
  have q1 := rR2.free 1
  have q2 := rR2.free 2
  have hE := ExprV.mk2 (S := fun b => (S b ∧ b < W.heap.size) ∨ W.heap.size + 2 ≤ b) (op := 9) rG ((hel2.ex.bound.ext e2').mono fun b h => .inl h) ((hel.ex.bound.ext e2').mono fun b h => .inl h) (.inr (by omega)) (by unfold WF; omega)
  go_wp2
  refine bodyPost_ret (v := .agg #[.int .i64 9, .int .i64 0, .slice (some ⟨w1.heap.size, 0, none⟩) 2 2]) (by simp [results, Tryd.results35, go_sem, *]) rfl ?_
  rw [show NE = _ from HNE.out.trans (neg_less x y)]
  exact .mk (set3_below _ _ _ e2' (by omega)) ((set3_expr2 _ _ _ hE (by omega) (fun h => by omega)).mono (by rintro b (h | h); exact .inl h.1; exact .inr (by omega)))

set_option maxRecDepth 100000 in
set_option maxHeartbeats 8000000 in
theorem negC_swap9 (x y : Ex) : NegC (twoE 9 x y) := by
  intro S W v hT hv
  obtain ⟨a, cap, xb, xo, xa, xc, yb, yo, ya, yc, rfl, hel, hel2⟩ := hv.two
  have ex0 := ext_alloc' (ext_alloc W (.cells #[.int .i64 9, .int .i64 0, .slice a 2 cap] 24)) (.cells #[.int .i64 0, .int .i64 0, .slice none 0 0] 24)
  have rE := (row_new W [.int .i64 9, .int .i64 0, .slice a 2 cap] 24).alloc (.cells #[.int .i64 0, .int .i64 0, .slice none 0 0] 24)
  have rR := row_new (W.alloc (.cells #[.int .i64 9, .int .i64 0, .slice a 2 cap] 24)) [.int .i64 0, .int .i64 0, .slice none 0 0] 24
  rw [World.size_alloc] at rR
  obtain ⟨NE, hNE⟩ : ∃ NE, NE = negE (twoE 9 x y) := ⟨_, rfl⟩
  rw [← hNE]
  have HNE := Lib.hid hNE
  clear hNE
  have q := hel.idx
  have q2 := hel2.idx
  go_enter Tryd.func35, Tryd.ntmps35
  go_wp2_with fail
  refine (dual_calls (hT.ext ex0) 9 (by omega)).mono ?_
  rintro _ wd ⟨_, rfl, hbd, rfl⟩
  have ed := ext_trans ex0 hbd
  have rE1 := rE.ext hbd
  have rR1 := rR.ext hbd
  have lE := rE1.lt
  have lR := rR1.lt
  have TD := hT.ext ed
  have dC : dualC 9 = 8 := rfl
  have dO : dualOk 9 = true := rfl
  rw [dC, dO]
  clear dC dO
  obtain ⟨e0, e1, e2⟩ := rE1.three
  have t1 := TD.of 8 (by omega) (by omega)
  have ak : argKind 8 = 0 := rfl
  rw [ak] at t1
  have t2 : wd.cell? ⟨0, 26, none⟩ = some (.int .i64 0) := t1
  clear t1 ak
  have qt := idx_rows (op := 8) (by omega) (by omega)
  have qt' : ∀ W, (Instr.indexAt 62 (.pointer (some ⟨0, 0, none⟩)) (.int .i64 8)).run Tryd.prog W = .ok (.pointer (some ⟨0, 24, none⟩)) W := qt
  clear qt
  have hp0 := TD.pos
  have hl0 : 0 < wd.heap.size := by omega
  go_wp2_with fail
  obtain ⟨w1, hw1⟩ : ∃ w1, w1 = wd.alloc (.cells #[.int .i64 8, .int .i64 0, .slice none 0 0] 24) := ⟨_, rfl⟩
  rw [← hw1]
  have hb1 : Below wd.heap.size wd w1 := by rw [hw1]; exact ext_alloc wd _
  have rO : Row w1 wd.heap.size 24 [.int .i64 8, .int .i64 0, .slice none 0 0] := by rw [hw1]; exact row_new wd _ _
  clear hw1 e0 e1 e2 t2
  have ew := ext_trans ed hb1
  obtain ⟨e0, e1, e2⟩ := (rE1.ext hb1).three
  have d0 := (hel.ext ew).c0
  have d1 := (hel.ext ew).c1
  have d2 := (hel.ext ew).c2
  have g0 := (hel2.ext ew).c0
  have g1 := (hel2.ext ew).c1
  have g2 := (hel2.ext ew).c2
  obtain ⟨o0, o1, o2⟩ := rO.three
  have oF := rO.free 2
  have lO := rO.lt
  have n1 := World.new_ne w1 _ e2
  have n2 := World.new_ne w1 _ d0
  have n3 := World.new_ne w1 _ d1
  have n4 := World.new_ne w1 _ d2
  have n5 := World.new_ne w1 _ g0
  have n6 := World.new_ne w1 _ g1
  have n7 := World.new_ne w1 _ g2
  have nE : W.heap.size ≠ wd.heap.size := by omega
  have nX : xb ≠ wd.heap.size := by have := World.block_lt_of_cell? W _ hel.c0; have := ed.size; simp at *; omega
  have nY : yb ≠ wd.heap.size := by have := World.block_lt_of_cell? W _ hel2.c0; have := ed.size; simp at *; omega
  go_region_held3 (fun w' : World => w'.cell? ⟨W.heap.size, 2, none⟩ = some (.slice a 2 cap) ∧ w'.cell? ⟨xb, xo, none⟩ = some (.int .i64 x.op) ∧ w'.cell? ⟨xb, xo + 1, none⟩ = some (.int .i64 x.num) ∧ w'.cell? ⟨xb, xo + 2, none⟩ = some (.slice xa x.args.length xc) ∧ w'.cell? ⟨yb, yo, none⟩ = some (.int .i64 y.op) ∧ w'.cell? ⟨yb, yo + 1, none⟩ = some (.int .i64 y.num) ∧ w'.cell? ⟨yb, yo + 2, none⟩ = some (.slice ya y.args.length yc)) (first | exact ⟨cell_sa e2 nE, cell_sa d0 nX, cell_sa d1 nX, cell_sa d2 nX, cell_sa g0 nY, cell_sa g1 nY, cell_sa g2 nY⟩ | go_keep) (fail)
  obtain ⟨w2, hw2⟩ : ∃ w2, w2 = ((w1.setCell ⟨wd.heap.size, 2, none⟩ (.slice (some ⟨w1.heap.size, 0, none⟩) 2 2)).alloc (.cells #[.int .i64 y.op, .int .i64 y.num, .slice ya y.args.length yc, .int .i64 x.op, .int .i64 x.num, .slice xa x.args.length xc] 24)).drew := ⟨_, rfl⟩
  rw [← hw2]
  have hb2 : Below wd.heap.size wd w2 := by rw [hw2]; exact ((hb1.setCell (by simp) _).alloc (by have := hb1.size; simp; omega) _).drew
  have rO2 : Row w2 wd.heap.size 24 [.int .i64 8, .int .i64 0, .slice (some ⟨w1.heap.size, 0, none⟩) 2 2] := by rw [hw2]; exact (rO.set 2 _).alloc _
  have rG : Row w2 w1.heap.size 24 [.int .i64 y.op, .int .i64 y.num, .slice ya y.args.length yc, .int .i64 x.op, .int .i64 x.num, .slice xa x.args.length xc] := by
    rw [hw2]
    have h := row_new (w1.setCell ⟨wd.heap.size, 2, none⟩ (.slice (some ⟨w1.heap.size, 0, none⟩) 2 2)) [.int .i64 y.op, .int .i64 y.num, .slice ya y.args.length yc, .int .i64 x.op, .int .i64 x.num, .slice xa x.args.length xc] 24
    rw [World.size_setCell] at h
    exact h
  clear hw2
  have e2' := ext_trans ed hb2
  have s1 := hb1.size
  have rR2 := rR1.ext hb2
  clear e0 e1 e2 o0 o1 o2 oF d0 d1 d2 g0 g1 g2 n1 n2 n3 n4 n5 n6 n7
  obtain ⟨o0, o1, o2⟩ := rO2.three
  obtain ⟨r0, r1, r2⟩ := rR2.three
  have q0 := rR2.free 0
  have q1 := rR2.free 1
  have q2 := rR2.free 2
  have hE := ExprV.mk2 (S := fun b => (S b ∧ b < W.heap.size) ∨ W.heap.size + 2 ≤ b) (op := 8) rG ((hel2.ex.bound.ext e2').mono fun b h => .inl h) ((hel.ex.bound.ext e2').mono fun b h => .inl h) (.inr (by omega)) (by unfold WF; omega)
  go_wp2
  refine bodyPost_ret (v := .agg #[.int .i64 8, .int .i64 0, .slice (some ⟨w1.heap.size, 0, none⟩) 2 2]) (by simp [results, Tryd.results35, go_sem, *]) rfl ?_
  rw [show NE = _ from HNE.out.trans (neg_most x y)]
  exact .mk (set3_below _ _ _ e2' (by omega)) ((set3_expr2 _ _ _ hE (by omega) (fun h => by omega)).mono (by rintro b (h | h); exact .inl h.1; exact .inr (by omega)))

set_option maxRecDepth 100000 in
set_option maxHeartbeats 8000000 in
theorem negC_rec13 (x : Ex) (ih : NegC x) : NegC (oneE 13 x) := by
  intro S W v hT hv
  obtain ⟨a, cap, xb, xo, xa, xc, rfl, hel⟩ := hv.one
  have ex0 := ext_alloc' (ext_alloc W (.cells #[.int .i64 13, .int .i64 0, .slice a 1 cap] 24)) (.cells #[.int .i64 0, .int .i64 0, .slice none 0 0] 24)
  have rE := (row_new W [.int .i64 13, .int .i64 0, .slice a 1 cap] 24).alloc (.cells #[.int .i64 0, .int .i64 0, .slice none 0 0] 24)
  have rR := row_new (W.alloc (.cells #[.int .i64 13, .int .i64 0, .slice a 1 cap] 24)) [.int .i64 0, .int .i64 0, .slice none 0 0] 24
  rw [World.size_alloc] at rR
  obtain ⟨NE, hNE⟩ : ∃ NE, NE = negE (oneE 13 x) := ⟨_, rfl⟩
  rw [← hNE]
  have HNE := Lib.hid hNE
  clear hNE
  have IHL : ∀ z ∈ [x], NegC z := by intro z hz; (obtain rfl : z = x := by simpa using hz); exact ih
  have hel0 := Lib.hid (show ∀ k : Nat, k < 1 → ∃ b off a' c', El S W a 1 cap k (nthE [x] k) b off a' c' by
    intro k hk; obtain rfl : k = 0 := by omega
    exact ⟨xb, xo, xa, xc, hel⟩)
  obtain ⟨i0, hi, hz0, hz1, hz2⟩ := info_parts info_expr3
  go_enter Tryd.func35, Tryd.ntmps35
  go_wp2_with fail
  refine (dual_calls (hT.ext ex0) 13 (by omega)).mono ?_
  rintro _ wd ⟨_, rfl, hbd, rfl⟩
  have ed := ext_trans ex0 hbd
  have rE1 := rE.ext hbd
  have rR1 := rR.ext hbd
  have lE := rE1.lt
  have lR := rR1.lt
  have TD := hT.ext ed
  have dC : dualC 13 = 14 := rfl
  have dO : dualOk 13 = true := rfl
  rw [dC, dO]
  clear dC dO
  obtain ⟨e0, e1, e2⟩ := rE1.three
  have t1 := TD.of 14 (by omega) (by omega)
  have ak : argKind 14 = 1 := rfl
  rw [ak] at t1
  have t2 : wd.cell? ⟨0, 44, none⟩ = some (.int .i64 1) := t1
  clear t1 ak
  have qt := idx_rows (op := 14) (by omega) (by omega)
  have qt' : ∀ W, (Instr.indexAt 62 (.pointer (some ⟨0, 0, none⟩)) (.int .i64 14)).run Tryd.prog W = .ok (.pointer (some ⟨0, 42, none⟩)) W := qt
  clear qt
  have hp0 := TD.pos
  have hl0 : 0 < wd.heap.size := by omega
  go_wp2
  go_loopw [47] (fun i wr => ∃ k : Nat, k ≤ 1 ∧ i = .int .i64 k ∧ Below W.heap.size W wr ∧ ∃ (v' : Value) (us : List Tri) (T : Nat → Prop), Row wr wd.heap.size 24 [.int .i64 14, .int .i64 0, v'] ∧ Row wr (W.heap.size + 1) 24 [.int .i64 0, .int .i64 0, .slice none 0 0] ∧
      Args3 T (wd.heap.size + 1) wr v' us (negL ([x].take k)) ∧ (∀ b, T b → (S b ∧ b < W.heap.size) ∨ wd.heap.size + 1 ≤ b)) (fun i _ => 1 - (intOf i).toNat)
  case atStart =>
    exact ⟨0, by omega, rfl, ext_alloc' ed _, .slice none 0 0, [], fun _ => False, row_new wd _ _, rR1.alloc _, Args3.nil _ _, fun b h => h.elim⟩
  case round =>
    obtain ⟨k, hk, rfl, hb, v', us, T, hR, hR1, hA, hT1⟩ := hrel
    by_cases hlt : k < 1
    · obtain ⟨b, off, a', c', hek⟩ := hel0.out k hlt
      have hel1 := hek.ext hb
      have q := hel1.idx
      have c0 := hel1.c0
      have c1 := hel1.c1
      have c2 := hel1.c2
      go_wp2_with fail
      have hlR := hR.lt
      have hlR1 := hR1.lt
      obtain ⟨w1, hw1⟩ : ∃ w1, w1 = wr.alloc (.cells #[.int .i64 (nthE [x] k).op, .int .i64 (nthE [x] k).num, .slice a' (nthE [x] k).args.length c'] 24) := ⟨_, rfl⟩
      rw [← hw1]
      have hb1 : Below wr.heap.size wr w1 := by rw [hw1]; exact ext_alloc wr _
      have hX1 : Row w1 wr.heap.size 24 [.int .i64 (nthE [x] k).op, .int .i64 (nthE [x] k).num, .slice a' (nthE [x] k).args.length c'] := by rw [hw1]; exact row_new wr _ _
      clear hw1 q c0 c1 c2
      have hlX := hX1.lt
      have hR2 := hR.ext hb1
      have hA2 := (hA.bound).ext hb1
      obtain ⟨x0, x1, x2⟩ := hX1.three
      have ce := hR2.cell (j := 2) rfl
      have ew1 := ext_trans hb hb1
      have hex : ExprV (fun b => S b ∧ b < W.heap.size) w1 (nthE [x] k) (.agg #[.int .i64 (nthE [x] k).op, .int .i64 (nthE [x] k).num, .slice a' (nthE [x] k).args.length c']) := hek.ex.bound.ext ew1
      have HK := Lib.hid (negL_length ([x].take k))
      have HIH := Lib.hid (IHL _ (nthE_mem (l := [x]) hlt))
      have IK := Lib.hid (fun W' (hW' : Below w1.heap.size w1 W') => HIH.out _ W' _ (hT.ext (ext_trans ew1 hW')) (hex.ext hW'))
      have hrefl := Below.refl w1.heap.size w1
      have hkl : (negL ([x].take k)).length ≤ 1 := by rw [HK.out, List.length_take]; simp; omega
      have B1 := Lib.hid (show (negL ([x].take k)).length + 1 ≤ maxLen by unfold maxLen; omega)
      have B2 := Lib.hid (show ((negL ([x].take k)).length + 1) * 40 ≤ 140737488355328 by omega)
      have hbs := hb.size
      have HNO := Lib.hid (show v'.ownBlock ≠ some wd.heap.size from fun h => by have := (hA.own_lt _ h).1; omega)
      go_region_law
        (first
          | (go_simp; go_at_call 35; refine (IK.out _ (by first | assumption | (apply Below.drew; assumption))).mono ?_; rintro _ w5 ⟨v5, rfl, hb5, hx5⟩; obtain ⟨a5, c5, rfl, wo5, wn5, _⟩ := hx5.parts; have hbb : Below w1.heap.size w1 w5 := ext_trans (by first | assumption | (apply Below.drew; assumption)) hb5; have ce5 := cell_ext ce hbb; have OWN5 := Lib.hid (hA2.2.1 |> fun h => owns_ext h hbb); have hl5 : wd.heap.size < w5.heap.size := Nat.lt_of_lt_of_le hR2.lt hbb.size)
          | (refine step_append_lies _ (by rfl) _ _ _ (by rfl) (wd.heap.size + 1) 24 i0 _ 3 40 Tryd.underlying22 hi hz0 hz1 hz2 rfl (by decide) v' (negL ([x].take k)).length (flat us) (by rfl) (by first | exact OWN5.out.alloc _ | exact (OWN5.out.alloc _).drew) ⟨w5.heap.size, 0, none⟩ 1 1 [.int .i64 (negE (nthE [x] k)).op, .int .i64 (negE (nthE [x] k)).num, .slice a5 (negE (nthE [x] k)).args.length c5] (by rfl) (by rfl)
              (World.news_of_block (cs := #[.int .i64 (negE (nthE [x] k)).op, .int .i64 (negE (nthE [x] k)).num, .slice a5 (negE (nthE [x] k)).args.length c5]) (t := 24) (fr := (0, 0)) (heap_alloc_new w5 _)) (by simp [Value.oneCell']) (by decide) B1.out B2.out (by simp; omega) (w5.heap.size + 1) (by simp) ?_; intro g6 cp6 w6 hown6 hgrow6 hat6 hlt6; have hR6 := Row.grown ((hR2.ext hbb).alloc (.cells #[.int .i64 (negE (nthE [x] k)).op, .int .i64 (negE (nthE [x] k)).num, .slice a5 (negE (nthE [x] k)).args.length c5] 24)) hgrow6 HNO.out; have ce6 := hR6.cell (j := 2) rfl; have fr6 := hR6.free 2))
      all_goals
        have HRA := round_args2 (W := W) (base := wd.heap.size + 1) (Bx := wd.heap.size) (by omega) (by omega) (by omega) hb hb1 hbb hR hA (fun b h => h.2) hT1 hx5 rfl hown6 hgrow6 hat6
        obtain ⟨hb7, hR7, hO7, T7, hA7, hT7⟩ := HRA
        have hR17 := hO7 _ _ _ (by omega) (by omega) hR1
        have HSN := Lib.hid (negL_snoc (xs := [x]) hlt)
        rw [← HSN.out] at hA7
        go_wp2
        go_roundw
        case rel => exact ⟨k + 1, by omega, by go_num, hb7, _, _, T7, hR7, hR17, hA7, hT7⟩
        case measure => simp [intOf]; omega
    · obtain rfl : k = 1 := by omega
      have hE := (hA.expr (op := 14) (num := 0) (by unfold WF; omega) (by unfold WF; omega)).mono (S' := fun b => (S b ∧ b < W.heap.size) ∨ W.heap.size + 2 ≤ b) (by
        rintro b (h | h)
        · rcases hT1 b h with h | h
          · exact .inl h
          · exact .inr (by omega)
        · have := (hA.own_lt b h).1; exact .inr (by omega))
      obtain ⟨a2, cap2, he2, _⟩ := hE.els
      have he3 : v' = .slice a2 1 cap2 := by have h : Value.agg #[.int .i64 14, .int .i64 0, v'] = .agg #[.int .i64 14, .int .i64 0, .slice a2 1 cap2] := he2; simpa using h
      clear he2
      subst he3
      clear e0 e1 e2
      obtain ⟨e0, e1, e2⟩ := hR.three
      obtain ⟨r0, r1, r2⟩ := hR1.three
      have q0 := hR1.free 0
      have q1 := hR1.free 1
      have q2 := hR1.free 2
      have hlR := hR.lt
      have hlR1 := hR1.lt
      go_wp2
      refine bodyPost_ret (v := .agg #[.int .i64 14, .int .i64 0, .slice a2 1 cap2]) (by simp [results, Tryd.results35, go_sem, *]) rfl ?_
      rw [show NE = _ from HNE.out.trans (by rfl)]
      exact .mk (set3_below _ _ _ hb (by omega)) ((set3_expr2 _ _ _ hE (by omega) (fun h => by omega)).mono (by rintro b (h | h); exact .inl h.1; exact .inr (by omega)))

set_option maxRecDepth 100000 in
set_option maxHeartbeats 8000000 in
theorem negC_rec14 (x : Ex) (ih : NegC x) : NegC (oneE 14 x) := by
  intro S W v hT hv
  obtain ⟨a, cap, xb, xo, xa, xc, rfl, hel⟩ := hv.one
  have ex0 := ext_alloc' (ext_alloc W (.cells #[.int .i64 14, .int .i64 0, .slice a 1 cap] 24)) (.cells #[.int .i64 0, .int .i64 0, .slice none 0 0] 24)
  have rE := (row_new W [.int .i64 14, .int .i64 0, .slice a 1 cap] 24).alloc (.cells #[.int .i64 0, .int .i64 0, .slice none 0 0] 24)
  have rR := row_new (W.alloc (.cells #[.int .i64 14, .int .i64 0, .slice a 1 cap] 24)) [.int .i64 0, .int .i64 0, .slice none 0 0] 24
  rw [World.size_alloc] at rR
  obtain ⟨NE, hNE⟩ : ∃ NE, NE = negE (oneE 14 x) := ⟨_, rfl⟩
  rw [← hNE]
  have HNE := Lib.hid hNE
  clear hNE
  have IHL : ∀ z ∈ [x], NegC z := by intro z hz; (obtain rfl : z = x := by simpa using hz); exact ih
  have hel0 := Lib.hid (show ∀ k : Nat, k < 1 → ∃ b off a' c', El S W a 1 cap k (nthE [x] k) b off a' c' by
    intro k hk; obtain rfl : k = 0 := by omega
    exact ⟨xb, xo, xa, xc, hel⟩)
  obtain ⟨i0, hi, hz0, hz1, hz2⟩ := info_parts info_expr3
  go_enter Tryd.func35, Tryd.ntmps35
  go_wp2_with fail
  refine (dual_calls (hT.ext ex0) 14 (by omega)).mono ?_
  rintro _ wd ⟨_, rfl, hbd, rfl⟩
  have ed := ext_trans ex0 hbd
  have rE1 := rE.ext hbd
  have rR1 := rR.ext hbd
  have lE := rE1.lt
  have lR := rR1.lt
  have TD := hT.ext ed
  have dC : dualC 14 = 13 := rfl
  have dO : dualOk 14 = true := rfl
  rw [dC, dO]
  clear dC dO
  obtain ⟨e0, e1, e2⟩ := rE1.three
  have t1 := TD.of 13 (by omega) (by omega)
  have ak : argKind 13 = 1 := rfl
  rw [ak] at t1
  have t2 : wd.cell? ⟨0, 41, none⟩ = some (.int .i64 1) := t1
  clear t1 ak
  have qt := idx_rows (op := 13) (by omega) (by omega)
  have qt' : ∀ W, (Instr.indexAt 62 (.pointer (some ⟨0, 0, none⟩)) (.int .i64 13)).run Tryd.prog W = .ok (.pointer (some ⟨0, 39, none⟩)) W := qt
  clear qt
  have hp0 := TD.pos
  have hl0 : 0 < wd.heap.size := by omega
  go_wp2
  go_loopw [47] (fun i wr => ∃ k : Nat, k ≤ 1 ∧ i = .int .i64 k ∧ Below W.heap.size W wr ∧ ∃ (v' : Value) (us : List Tri) (T : Nat → Prop), Row wr wd.heap.size 24 [.int .i64 13, .int .i64 0, v'] ∧ Row wr (W.heap.size + 1) 24 [.int .i64 0, .int .i64 0, .slice none 0 0] ∧
      Args3 T (wd.heap.size + 1) wr v' us (negL ([x].take k)) ∧ (∀ b, T b → (S b ∧ b < W.heap.size) ∨ wd.heap.size + 1 ≤ b)) (fun i _ => 1 - (intOf i).toNat)
  case atStart =>
    exact ⟨0, by omega, rfl, ext_alloc' ed _, .slice none 0 0, [], fun _ => False, row_new wd _ _, rR1.alloc _, Args3.nil _ _, fun b h => h.elim⟩
  case round =>
    obtain ⟨k, hk, rfl, hb, v', us, T, hR, hR1, hA, hT1⟩ := hrel
    by_cases hlt : k < 1
    · obtain ⟨b, off, a', c', hek⟩ := hel0.out k hlt
      have hel1 := hek.ext hb
      have q := hel1.idx
      have c0 := hel1.c0
      have c1 := hel1.c1
      have c2 := hel1.c2
      go_wp2_with fail
      have hlR := hR.lt
      have hlR1 := hR1.lt
      obtain ⟨w1, hw1⟩ : ∃ w1, w1 = wr.alloc (.cells #[.int .i64 (nthE [x] k).op, .int .i64 (nthE [x] k).num, .slice a' (nthE [x] k).args.length c'] 24) := ⟨_, rfl⟩
      rw [← hw1]
      have hb1 : Below wr.heap.size wr w1 := by rw [hw1]; exact ext_alloc wr _
      have hX1 : Row w1 wr.heap.size 24 [.int .i64 (nthE [x] k).op, .int .i64 (nthE [x] k).num, .slice a' (nthE [x] k).args.length c'] := by rw [hw1]; exact row_new wr _ _
      clear hw1 q c0 c1 c2
      have hlX := hX1.lt
      have hR2 := hR.ext hb1
      have hA2 := (hA.bound).ext hb1
      obtain ⟨x0, x1, x2⟩ := hX1.three
      have ce := hR2.cell (j := 2) rfl
      have ew1 := ext_trans hb hb1
      have hex : ExprV (fun b => S b ∧ b < W.heap.size) w1 (nthE [x] k) (.agg #[.int .i64 (nthE [x] k).op, .int .i64 (nthE [x] k).num, .slice a' (nthE [x] k).args.length c']) := hek.ex.bound.ext ew1
      have HK := Lib.hid (negL_length ([x].take k))
      have HIH := Lib.hid (IHL _ (nthE_mem (l := [x]) hlt))
      have IK := Lib.hid (fun W' (hW' : Below w1.heap.size w1 W') => HIH.out _ W' _ (hT.ext (ext_trans ew1 hW')) (hex.ext hW'))
      have hrefl := Below.refl w1.heap.size w1
      have hkl : (negL ([x].take k)).length ≤ 1 := by rw [HK.out, List.length_take]; simp; omega
      have B1 := Lib.hid (show (negL ([x].take k)).length + 1 ≤ maxLen by unfold maxLen; omega)
      have B2 := Lib.hid (show ((negL ([x].take k)).length + 1) * 40 ≤ 140737488355328 by omega)
      have hbs := hb.size
      have HNO := Lib.hid (show v'.ownBlock ≠ some wd.heap.size from fun h => by have := (hA.own_lt _ h).1; omega)
      go_region_law
        (first
          | (go_simp; go_at_call 35; refine (IK.out _ (by first | assumption | (apply Below.drew; assumption))).mono ?_; rintro _ w5 ⟨v5, rfl, hb5, hx5⟩; obtain ⟨a5, c5, rfl, wo5, wn5, _⟩ := hx5.parts; have hbb : Below w1.heap.size w1 w5 := ext_trans (by first | assumption | (apply Below.drew; assumption)) hb5; have ce5 := cell_ext ce hbb; have OWN5 := Lib.hid (hA2.2.1 |> fun h => owns_ext h hbb); have hl5 : wd.heap.size < w5.heap.size := Nat.lt_of_lt_of_le hR2.lt hbb.size)
          | (refine step_append_lies _ (by rfl) _ _ _ (by rfl) (wd.heap.size + 1) 24 i0 _ 3 40 Tryd.underlying22 hi hz0 hz1 hz2 rfl (by decide) v' (negL ([x].take k)).length (flat us) (by rfl) (by first | exact OWN5.out.alloc _ | exact (OWN5.out.alloc _).drew) ⟨w5.heap.size, 0, none⟩ 1 1 [.int .i64 (negE (nthE [x] k)).op, .int .i64 (negE (nthE [x] k)).num, .slice a5 (negE (nthE [x] k)).args.length c5] (by rfl) (by rfl)
              (World.news_of_block (cs := #[.int .i64 (negE (nthE [x] k)).op, .int .i64 (negE (nthE [x] k)).num, .slice a5 (negE (nthE [x] k)).args.length c5]) (t := 24) (fr := (0, 0)) (heap_alloc_new w5 _)) (by simp [Value.oneCell']) (by decide) B1.out B2.out (by simp; omega) (w5.heap.size + 1) (by simp) ?_; intro g6 cp6 w6 hown6 hgrow6 hat6 hlt6; have hR6 := Row.grown ((hR2.ext hbb).alloc (.cells #[.int .i64 (negE (nthE [x] k)).op, .int .i64 (negE (nthE [x] k)).num, .slice a5 (negE (nthE [x] k)).args.length c5] 24)) hgrow6 HNO.out; have ce6 := hR6.cell (j := 2) rfl; have fr6 := hR6.free 2))
      all_goals
        have HRA := round_args2 (W := W) (base := wd.heap.size + 1) (Bx := wd.heap.size) (by omega) (by omega) (by omega) hb hb1 hbb hR hA (fun b h => h.2) hT1 hx5 rfl hown6 hgrow6 hat6
        obtain ⟨hb7, hR7, hO7, T7, hA7, hT7⟩ := HRA
        have hR17 := hO7 _ _ _ (by omega) (by omega) hR1
        have HSN := Lib.hid (negL_snoc (xs := [x]) hlt)
        rw [← HSN.out] at hA7
        go_wp2
        go_roundw
        case rel => exact ⟨k + 1, by omega, by go_num, hb7, _, _, T7, hR7, hR17, hA7, hT7⟩
        case measure => simp [intOf]; omega
    · obtain rfl : k = 1 := by omega
      have hE := (hA.expr (op := 13) (num := 0) (by unfold WF; omega) (by unfold WF; omega)).mono (S' := fun b => (S b ∧ b < W.heap.size) ∨ W.heap.size + 2 ≤ b) (by
        rintro b (h | h)
        · rcases hT1 b h with h | h
          · exact .inl h
          · exact .inr (by omega)
        · have := (hA.own_lt b h).1; exact .inr (by omega))
      obtain ⟨a2, cap2, he2, _⟩ := hE.els
      have he3 : v' = .slice a2 1 cap2 := by have h : Value.agg #[.int .i64 13, .int .i64 0, v'] = .agg #[.int .i64 13, .int .i64 0, .slice a2 1 cap2] := he2; simpa using h
      clear he2
      subst he3
      clear e0 e1 e2
      obtain ⟨e0, e1, e2⟩ := hR.three
      obtain ⟨r0, r1, r2⟩ := hR1.three
      have q0 := hR1.free 0
      have q1 := hR1.free 1
      have q2 := hR1.free 2
      have hlR := hR.lt
      have hlR1 := hR1.lt
      go_wp2
      refine bodyPost_ret (v := .agg #[.int .i64 13, .int .i64 0, .slice a2 1 cap2]) (by simp [results, Tryd.results35, go_sem, *]) rfl ?_
      rw [show NE = _ from HNE.out.trans (by rfl)]
      exact .mk (set3_below _ _ _ hb (by omega)) ((set3_expr2 _ _ _ hE (by omega) (fun h => by omega)).mono (by rintro b (h | h); exact .inl h.1; exact .inr (by omega)))

set_option maxRecDepth 100000 in
set_option maxHeartbeats 8000000 in
theorem negC_rec10 (x y : Ex) (ih : NegC x) (ih2 : NegC y) : NegC (twoE 10 x y) := by
  intro S W v hT hv
  obtain ⟨a, cap, xb, xo, xa, xc, yb, yo, ya, yc, rfl, hel, hel2⟩ := hv.two
  have ex0 := ext_alloc' (ext_alloc W (.cells #[.int .i64 10, .int .i64 0, .slice a 2 cap] 24)) (.cells #[.int .i64 0, .int .i64 0, .slice none 0 0] 24)
  have rE := (row_new W [.int .i64 10, .int .i64 0, .slice a 2 cap] 24).alloc (.cells #[.int .i64 0, .int .i64 0, .slice none 0 0] 24)
  have rR := row_new (W.alloc (.cells #[.int .i64 10, .int .i64 0, .slice a 2 cap] 24)) [.int .i64 0, .int .i64 0, .slice none 0 0] 24
  rw [World.size_alloc] at rR
  obtain ⟨NE, hNE⟩ : ∃ NE, NE = negE (twoE 10 x y) := ⟨_, rfl⟩
  rw [← hNE]
  have HNE := Lib.hid hNE
  clear hNE
  have IHL : ∀ z ∈ [x, y], NegC z := by intro z hz; rcases List.mem_cons.1 hz with rfl | hz; exact ih; (obtain rfl : z = y := by simpa using hz); exact ih2
  have hel0 := Lib.hid (show ∀ k : Nat, k < 2 → ∃ b off a' c', El S W a 2 cap k (nthE [x, y] k) b off a' c' by
    intro k hk; rcases (show k = 0 ∨ k = 1 by omega) with rfl | rfl
    · exact ⟨xb, xo, xa, xc, hel⟩
    · exact ⟨yb, yo, ya, yc, hel2⟩)
  obtain ⟨i0, hi, hz0, hz1, hz2⟩ := info_parts info_expr3
  go_enter Tryd.func35, Tryd.ntmps35
  go_wp2_with fail
  refine (dual_calls (hT.ext ex0) 10 (by omega)).mono ?_
  rintro _ wd ⟨_, rfl, hbd, rfl⟩
  have ed := ext_trans ex0 hbd
  have rE1 := rE.ext hbd
  have rR1 := rR.ext hbd
  have lE := rE1.lt
  have lR := rR1.lt
  have TD := hT.ext ed
  have dC : dualC 10 = 11 := rfl
  have dO : dualOk 10 = true := rfl
  rw [dC, dO]
  clear dC dO
  obtain ⟨e0, e1, e2⟩ := rE1.three
  have t1 := TD.of 11 (by omega) (by omega)
  have ak : argKind 11 = 1 := rfl
  rw [ak] at t1
  have t2 : wd.cell? ⟨0, 35, none⟩ = some (.int .i64 1) := t1
  clear t1 ak
  have qt := idx_rows (op := 11) (by omega) (by omega)
  have qt' : ∀ W, (Instr.indexAt 62 (.pointer (some ⟨0, 0, none⟩)) (.int .i64 11)).run Tryd.prog W = .ok (.pointer (some ⟨0, 33, none⟩)) W := qt
  clear qt
  have hp0 := TD.pos
  have hl0 : 0 < wd.heap.size := by omega
  go_wp2
  go_loopw [47] (fun i wr => ∃ k : Nat, k ≤ 2 ∧ i = .int .i64 k ∧ Below W.heap.size W wr ∧ ∃ (v' : Value) (us : List Tri) (T : Nat → Prop), Row wr wd.heap.size 24 [.int .i64 11, .int .i64 0, v'] ∧ Row wr (W.heap.size + 1) 24 [.int .i64 0, .int .i64 0, .slice none 0 0] ∧
      Args3 T (wd.heap.size + 1) wr v' us (negL ([x, y].take k)) ∧ (∀ b, T b → (S b ∧ b < W.heap.size) ∨ wd.heap.size + 1 ≤ b)) (fun i _ => 2 - (intOf i).toNat)
  case atStart =>
    exact ⟨0, by omega, rfl, ext_alloc' ed _, .slice none 0 0, [], fun _ => False, row_new wd _ _, rR1.alloc _, Args3.nil _ _, fun b h => h.elim⟩
  case round =>
    obtain ⟨k, hk, rfl, hb, v', us, T, hR, hR1, hA, hT1⟩ := hrel
    by_cases hlt : k < 2
    · obtain ⟨b, off, a', c', hek⟩ := hel0.out k hlt
      have hel1 := hek.ext hb
      have q := hel1.idx
      have c0 := hel1.c0
      have c1 := hel1.c1
      have c2 := hel1.c2
      go_wp2_with fail
      have hlR := hR.lt
      have hlR1 := hR1.lt
      obtain ⟨w1, hw1⟩ : ∃ w1, w1 = wr.alloc (.cells #[.int .i64 (nthE [x, y] k).op, .int .i64 (nthE [x, y] k).num, .slice a' (nthE [x, y] k).args.length c'] 24) := ⟨_, rfl⟩
      rw [← hw1]
      have hb1 : Below wr.heap.size wr w1 := by rw [hw1]; exact ext_alloc wr _
      have hX1 : Row w1 wr.heap.size 24 [.int .i64 (nthE [x, y] k).op, .int .i64 (nthE [x, y] k).num, .slice a' (nthE [x, y] k).args.length c'] := by rw [hw1]; exact row_new wr _ _
      clear hw1 q c0 c1 c2
      have hlX := hX1.lt
      have hR2 := hR.ext hb1
      have hA2 := (hA.bound).ext hb1
      obtain ⟨x0, x1, x2⟩ := hX1.three
      have ce := hR2.cell (j := 2) rfl
      have ew1 := ext_trans hb hb1
      have hex : ExprV (fun b => S b ∧ b < W.heap.size) w1 (nthE [x, y] k) (.agg #[.int .i64 (nthE [x, y] k).op, .int .i64 (nthE [x, y] k).num, .slice a' (nthE [x, y] k).args.length c']) := hek.ex.bound.ext ew1
      have HK := Lib.hid (negL_length ([x, y].take k))
      have HIH := Lib.hid (IHL _ (nthE_mem (l := [x, y]) hlt))
      have IK := Lib.hid (fun W' (hW' : Below w1.heap.size w1 W') => HIH.out _ W' _ (hT.ext (ext_trans ew1 hW')) (hex.ext hW'))
      have hrefl := Below.refl w1.heap.size w1
      have hkl : (negL ([x, y].take k)).length ≤ 1 := by rw [HK.out, List.length_take]; simp; omega
      have B1 := Lib.hid (show (negL ([x, y].take k)).length + 1 ≤ maxLen by unfold maxLen; omega)
      have B2 := Lib.hid (show ((negL ([x, y].take k)).length + 1) * 40 ≤ 140737488355328 by omega)
      have hbs := hb.size
      have HNO := Lib.hid (show v'.ownBlock ≠ some wd.heap.size from fun h => by have := (hA.own_lt _ h).1; omega)
      go_region_law
        (first
          | (go_simp; go_at_call 35; refine (IK.out _ (by first | assumption | (apply Below.drew; assumption))).mono ?_; rintro _ w5 ⟨v5, rfl, hb5, hx5⟩; obtain ⟨a5, c5, rfl, wo5, wn5, _⟩ := hx5.parts; have hbb : Below w1.heap.size w1 w5 := ext_trans (by first | assumption | (apply Below.drew; assumption)) hb5; have ce5 := cell_ext ce hbb; have OWN5 := Lib.hid (hA2.2.1 |> fun h => owns_ext h hbb); have hl5 : wd.heap.size < w5.heap.size := Nat.lt_of_lt_of_le hR2.lt hbb.size)
          | (refine step_append_lies _ (by rfl) _ _ _ (by rfl) (wd.heap.size + 1) 24 i0 _ 3 40 Tryd.underlying22 hi hz0 hz1 hz2 rfl (by decide) v' (negL ([x, y].take k)).length (flat us) (by rfl) (by first | exact OWN5.out.alloc _ | exact (OWN5.out.alloc _).drew) ⟨w5.heap.size, 0, none⟩ 1 1 [.int .i64 (negE (nthE [x, y] k)).op, .int .i64 (negE (nthE [x, y] k)).num, .slice a5 (negE (nthE [x, y] k)).args.length c5] (by rfl) (by rfl)
              (World.news_of_block (cs := #[.int .i64 (negE (nthE [x, y] k)).op, .int .i64 (negE (nthE [x, y] k)).num, .slice a5 (negE (nthE [x, y] k)).args.length c5]) (t := 24) (fr := (0, 0)) (heap_alloc_new w5 _)) (by simp [Value.oneCell']) (by decide) B1.out B2.out (by simp; omega) (w5.heap.size + 1) (by simp) ?_; intro g6 cp6 w6 hown6 hgrow6 hat6 hlt6; have hR6 := Row.grown ((hR2.ext hbb).alloc (.cells #[.int .i64 (negE (nthE [x, y] k)).op, .int .i64 (negE (nthE [x, y] k)).num, .slice a5 (negE (nthE [x, y] k)).args.length c5] 24)) hgrow6 HNO.out; have ce6 := hR6.cell (j := 2) rfl; have fr6 := hR6.free 2))
      all_goals
        have HRA := round_args2 (W := W) (base := wd.heap.size + 1) (Bx := wd.heap.size) (by omega) (by omega) (by omega) hb hb1 hbb hR hA (fun b h => h.2) hT1 hx5 rfl hown6 hgrow6 hat6
        obtain ⟨hb7, hR7, hO7, T7, hA7, hT7⟩ := HRA
        have hR17 := hO7 _ _ _ (by omega) (by omega) hR1
        have HSN := Lib.hid (negL_snoc (xs := [x, y]) hlt)
        rw [← HSN.out] at hA7
        go_wp2
        go_roundw
        case rel => exact ⟨k + 1, by omega, by go_num, hb7, _, _, T7, hR7, hR17, hA7, hT7⟩
        case measure => simp [intOf]; omega
    · obtain rfl : k = 2 := by omega
      have hE := (hA.expr (op := 11) (num := 0) (by unfold WF; omega) (by unfold WF; omega)).mono (S' := fun b => (S b ∧ b < W.heap.size) ∨ W.heap.size + 2 ≤ b) (by
        rintro b (h | h)
        · rcases hT1 b h with h | h
          · exact .inl h
          · exact .inr (by omega)
        · have := (hA.own_lt b h).1; exact .inr (by omega))
      obtain ⟨a2, cap2, he2, _⟩ := hE.els
      have he3 : v' = .slice a2 2 cap2 := by have h : Value.agg #[.int .i64 11, .int .i64 0, v'] = .agg #[.int .i64 11, .int .i64 0, .slice a2 2 cap2] := he2; simpa using h
      clear he2
      subst he3
      clear e0 e1 e2
      obtain ⟨e0, e1, e2⟩ := hR.three
      obtain ⟨r0, r1, r2⟩ := hR1.three
      have q0 := hR1.free 0
      have q1 := hR1.free 1
      have q2 := hR1.free 2
      have hlR := hR.lt
      have hlR1 := hR1.lt
      go_wp2
      refine bodyPost_ret (v := .agg #[.int .i64 11, .int .i64 0, .slice a2 2 cap2]) (by simp [results, Tryd.results35, go_sem, *]) rfl ?_
      rw [show NE = _ from HNE.out.trans (by rfl)]
      exact .mk (set3_below _ _ _ hb (by omega)) ((set3_expr2 _ _ _ hE (by omega) (fun h => by omega)).mono (by rintro b (h | h); exact .inl h.1; exact .inr (by omega)))

set_option maxRecDepth 100000 in
set_option maxHeartbeats 8000000 in
theorem negC_rec11 (x y : Ex) (ih : NegC x) (ih2 : NegC y) : NegC (twoE 11 x y) := by
  intro S W v hT hv
  obtain ⟨a, cap, xb, xo, xa, xc, yb, yo, ya, yc, rfl, hel, hel2⟩ := hv.two
  have ex0 := ext_alloc' (ext_alloc W (.cells #[.int .i64 11, .int .i64 0, .slice a 2 cap] 24)) (.cells #[.int .i64 0, .int .i64 0, .slice none 0 0] 24)
  have rE := (row_new W [.int .i64 11, .int .i64 0, .slice a 2 cap] 24).alloc (.cells #[.int .i64 0, .int .i64 0, .slice none 0 0] 24)
  have rR := row_new (W.alloc (.cells #[.int .i64 11, .int .i64 0, .slice a 2 cap] 24)) [.int .i64 0, .int .i64 0, .slice none 0 0] 24
  rw [World.size_alloc] at rR
  obtain ⟨NE, hNE⟩ : ∃ NE, NE = negE (twoE 11 x y) := ⟨_, rfl⟩
  rw [← hNE]
  have HNE := Lib.hid hNE
  clear hNE
  have IHL : ∀ z ∈ [x, y], NegC z := by intro z hz; rcases List.mem_cons.1 hz with rfl | hz; exact ih; (obtain rfl : z = y := by simpa using hz); exact ih2
  have hel0 := Lib.hid (show ∀ k : Nat, k < 2 → ∃ b off a' c', El S W a 2 cap k (nthE [x, y] k) b off a' c' by
    intro k hk; rcases (show k = 0 ∨ k = 1 by omega) with rfl | rfl
    · exact ⟨xb, xo, xa, xc, hel⟩
    · exact ⟨yb, yo, ya, yc, hel2⟩)
  obtain ⟨i0, hi, hz0, hz1, hz2⟩ := info_parts info_expr3
  go_enter Tryd.func35, Tryd.ntmps35
  go_wp2_with fail
  refine (dual_calls (hT.ext ex0) 11 (by omega)).mono ?_
  rintro _ wd ⟨_, rfl, hbd, rfl⟩
  have ed := ext_trans ex0 hbd
  have rE1 := rE.ext hbd
  have rR1 := rR.ext hbd
  have lE := rE1.lt
  have lR := rR1.lt
  have TD := hT.ext ed
  have dC : dualC 11 = 10 := rfl
  have dO : dualOk 11 = true := rfl
  rw [dC, dO]
  clear dC dO
  obtain ⟨e0, e1, e2⟩ := rE1.three
  have t1 := TD.of 10 (by omega) (by omega)
  have ak : argKind 10 = 1 := rfl
  rw [ak] at t1
  have t2 : wd.cell? ⟨0, 32, none⟩ = some (.int .i64 1) := t1
  clear t1 ak
  have qt := idx_rows (op := 10) (by omega) (by omega)
  have qt' : ∀ W, (Instr.indexAt 62 (.pointer (some ⟨0, 0, none⟩)) (.int .i64 10)).run Tryd.prog W = .ok (.pointer (some ⟨0, 30, none⟩)) W := qt
  clear qt
  have hp0 := TD.pos
  have hl0 : 0 < wd.heap.size := by omega
  go_wp2
  go_loopw [47] (fun i wr => ∃ k : Nat, k ≤ 2 ∧ i = .int .i64 k ∧ Below W.heap.size W wr ∧ ∃ (v' : Value) (us : List Tri) (T : Nat → Prop), Row wr wd.heap.size 24 [.int .i64 10, .int .i64 0, v'] ∧ Row wr (W.heap.size + 1) 24 [.int .i64 0, .int .i64 0, .slice none 0 0] ∧
      Args3 T (wd.heap.size + 1) wr v' us (negL ([x, y].take k)) ∧ (∀ b, T b → (S b ∧ b < W.heap.size) ∨ wd.heap.size + 1 ≤ b)) (fun i _ => 2 - (intOf i).toNat)
  case atStart =>
    exact ⟨0, by omega, rfl, ext_alloc' ed _, .slice none 0 0, [], fun _ => False, row_new wd _ _, rR1.alloc _, Args3.nil _ _, fun b h => h.elim⟩
  case round =>
    obtain ⟨k, hk, rfl, hb, v', us, T, hR, hR1, hA, hT1⟩ := hrel
    by_cases hlt : k < 2
    · obtain ⟨b, off, a', c', hek⟩ := hel0.out k hlt
      have hel1 := hek.ext hb
      have q := hel1.idx
      have c0 := hel1.c0
      have c1 := hel1.c1
      have c2 := hel1.c2
      go_wp2_with fail
      have hlR := hR.lt
      have hlR1 := hR1.lt
      obtain ⟨w1, hw1⟩ : ∃ w1, w1 = wr.alloc (.cells #[.int .i64 (nthE [x, y] k).op, .int .i64 (nthE [x, y] k).num, .slice a' (nthE [x, y] k).args.length c'] 24) := ⟨_, rfl⟩
      rw [← hw1]
      have hb1 : Below wr.heap.size wr w1 := by rw [hw1]; exact ext_alloc wr _
      have hX1 : Row w1 wr.heap.size 24 [.int .i64 (nthE [x, y] k).op, .int .i64 (nthE [x, y] k).num, .slice a' (nthE [x, y] k).args.length c'] := by rw [hw1]; exact row_new wr _ _
      clear hw1 q c0 c1 c2
      have hlX := hX1.lt
      have hR2 := hR.ext hb1
      have hA2 := (hA.bound).ext hb1
      obtain ⟨x0, x1, x2⟩ := hX1.three
      have ce := hR2.cell (j := 2) rfl
      have ew1 := ext_trans hb hb1
      have hex : ExprV (fun b => S b ∧ b < W.heap.size) w1 (nthE [x, y] k) (.agg #[.int .i64 (nthE [x, y] k).op, .int .i64 (nthE [x, y] k).num, .slice a' (nthE [x, y] k).args.length c']) := hek.ex.bound.ext ew1
      have HK := Lib.hid (negL_length ([x, y].take k))
      have HIH := Lib.hid (IHL _ (nthE_mem (l := [x, y]) hlt))
      have IK := Lib.hid (fun W' (hW' : Below w1.heap.size w1 W') => HIH.out _ W' _ (hT.ext (ext_trans ew1 hW')) (hex.ext hW'))
      have hrefl := Below.refl w1.heap.size w1
      have hkl : (negL ([x, y].take k)).length ≤ 1 := by rw [HK.out, List.length_take]; simp; omega
      have B1 := Lib.hid (show (negL ([x, y].take k)).length + 1 ≤ maxLen by unfold maxLen; omega)
      have B2 := Lib.hid (show ((negL ([x, y].take k)).length + 1) * 40 ≤ 140737488355328 by omega)
      have hbs := hb.size
      have HNO := Lib.hid (show v'.ownBlock ≠ some wd.heap.size from fun h => by have := (hA.own_lt _ h).1; omega)
      go_region_law
        (first
          | (go_simp; go_at_call 35; refine (IK.out _ (by first | assumption | (apply Below.drew; assumption))).mono ?_; rintro _ w5 ⟨v5, rfl, hb5, hx5⟩; obtain ⟨a5, c5, rfl, wo5, wn5, _⟩ := hx5.parts; have hbb : Below w1.heap.size w1 w5 := ext_trans (by first | assumption | (apply Below.drew; assumption)) hb5; have ce5 := cell_ext ce hbb; have OWN5 := Lib.hid (hA2.2.1 |> fun h => owns_ext h hbb); have hl5 : wd.heap.size < w5.heap.size := Nat.lt_of_lt_of_le hR2.lt hbb.size)
          | (refine step_append_lies _ (by rfl) _ _ _ (by rfl) (wd.heap.size + 1) 24 i0 _ 3 40 Tryd.underlying22 hi hz0 hz1 hz2 rfl (by decide) v' (negL ([x, y].take k)).length (flat us) (by rfl) (by first | exact OWN5.out.alloc _ | exact (OWN5.out.alloc _).drew) ⟨w5.heap.size, 0, none⟩ 1 1 [.int .i64 (negE (nthE [x, y] k)).op, .int .i64 (negE (nthE [x, y] k)).num, .slice a5 (negE (nthE [x, y] k)).args.length c5] (by rfl) (by rfl)
              (World.news_of_block (cs := #[.int .i64 (negE (nthE [x, y] k)).op, .int .i64 (negE (nthE [x, y] k)).num, .slice a5 (negE (nthE [x, y] k)).args.length c5]) (t := 24) (fr := (0, 0)) (heap_alloc_new w5 _)) (by simp [Value.oneCell']) (by decide) B1.out B2.out (by simp; omega) (w5.heap.size + 1) (by simp) ?_; intro g6 cp6 w6 hown6 hgrow6 hat6 hlt6; have hR6 := Row.grown ((hR2.ext hbb).alloc (.cells #[.int .i64 (negE (nthE [x, y] k)).op, .int .i64 (negE (nthE [x, y] k)).num, .slice a5 (negE (nthE [x, y] k)).args.length c5] 24)) hgrow6 HNO.out; have ce6 := hR6.cell (j := 2) rfl; have fr6 := hR6.free 2))
      all_goals
        have HRA := round_args2 (W := W) (base := wd.heap.size + 1) (Bx := wd.heap.size) (by omega) (by omega) (by omega) hb hb1 hbb hR hA (fun b h => h.2) hT1 hx5 rfl hown6 hgrow6 hat6
        obtain ⟨hb7, hR7, hO7, T7, hA7, hT7⟩ := HRA
        have hR17 := hO7 _ _ _ (by omega) (by omega) hR1
        have HSN := Lib.hid (negL_snoc (xs := [x, y]) hlt)
        rw [← HSN.out] at hA7
        go_wp2
        go_roundw
        case rel => exact ⟨k + 1, by omega, by go_num, hb7, _, _, T7, hR7, hR17, hA7, hT7⟩
        case measure => simp [intOf]; omega
    · obtain rfl : k = 2 := by omega
      have hE := (hA.expr (op := 10) (num := 0) (by unfold WF; omega) (by unfold WF; omega)).mono (S' := fun b => (S b ∧ b < W.heap.size) ∨ W.heap.size + 2 ≤ b) (by
        rintro b (h | h)
        · rcases hT1 b h with h | h
          · exact .inl h
          · exact .inr (by omega)
        · have := (hA.own_lt b h).1; exact .inr (by omega))
      obtain ⟨a2, cap2, he2, _⟩ := hE.els
      have he3 : v' = .slice a2 2 cap2 := by have h : Value.agg #[.int .i64 10, .int .i64 0, v'] = .agg #[.int .i64 10, .int .i64 0, .slice a2 2 cap2] := he2; simpa using h
      clear he2
      subst he3
      clear e0 e1 e2
      obtain ⟨e0, e1, e2⟩ := hR.three
      obtain ⟨r0, r1, r2⟩ := hR1.three
      have q0 := hR1.free 0
      have q1 := hR1.free 1
      have q2 := hR1.free 2
      have hlR := hR.lt
      have hlR1 := hR1.lt
      go_wp2
      refine bodyPost_ret (v := .agg #[.int .i64 10, .int .i64 0, .slice a2 2 cap2]) (by simp [results, Tryd.results35, go_sem, *]) rfl ?_
      rw [show NE = _ from HNE.out.trans (by rfl)]
      exact .mk (set3_below _ _ _ hb (by omega)) ((set3_expr2 _ _ _ hE (by omega) (fun h => by omega)).mono (by rintro b (h | h); exact .inl h.1; exact .inr (by omega)))

theorem negC_all {vars : Int} {e : Ex} (h : Wf vars e) : kindOf e.op = 1 → NegC e := by
  induction h using Wf.rec4 with
  | hn vars n h => intro hk; simp [numE, Ex.op, kindOf] at hk
  | hv vars n h h1 => intro hk; simp [varE, Ex.op, kindOf] at hk
  | h1 vars op x ho hk hx ih =>
    intro hK
    rcases ho with rfl | rfl | rfl | rfl | rfl | rfl
    · simp [oneE, Ex.op, kindOf] at hK
    · simp [oneE, Ex.op, kindOf] at hK
    · exact negC_not x
    · exact negC_rec13 x (ih (hk.trans rfl))
    · exact negC_rec14 x (ih (hk.trans rfl))
    · simp [oneE, Ex.op, kindOf] at hK
  | h2 vars op x y h4 h11 hk hk2 hx hy ih ih2 =>
    intro hK
    have : op = 4 ∨ op = 5 ∨ op = 6 ∨ op = 7 ∨ op = 8 ∨ op = 9 ∨ op = 10 ∨ op = 11 := by omega
    rcases this with rfl | rfl | rfl | rfl | rfl | rfl | rfl | rfl
    · exact negC_one4 x y
    · simp [twoE, Ex.op, kindOf] at hK
    · simp [twoE, Ex.op, kindOf] at hK
    · exact negC_one7 x y
    · exact negC_swap8 x y
    · exact negC_swap9 x y
    · exact negC_rec10 x y (ih (hk.trans rfl)) (ih2 (hk2.trans rfl))
    · exact negC_rec11 x y (ih (hk.trans rfl)) (ih2 (hk2.trans rfl))
end Go.Proofs.YthogcbffnbhalaaDoor

