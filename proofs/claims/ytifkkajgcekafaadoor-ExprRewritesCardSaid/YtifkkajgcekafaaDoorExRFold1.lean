/- The reference's numbers and logic. -/
import Derived.Test.YtifkkajgcekafaaDoorExFoldD
import Derived.Deep.DeepCutAuto
namespace Go.Proofs.YtifkkajgcekafaaDoor
set_option linter.unusedVariables false
open Go.RowKit
attribute [local go_sem ↓] Go.wp_at_zero Go.wp_at_succ

theorem set3_exprU {R : Nat} {S S' : Nat → Prop} {w : World} {e : Ex} {v : Value} (u0 u1 u2 : Value) (h : ExprV S w e v) (hR : ¬ S R) (hS : ∀ b, S b → S' b) : ExprV S' (((w.setCell ⟨R, 0, none⟩ u0).setCell ⟨R, 1, none⟩ u1).setCell ⟨R, 2, none⟩ u2) e v := by
  have hne : ∀ b, S b → some R ≠ some b := fun b hb e => by cases e; exact hR hb
  exact (h.agree (((Agree.of_grown (grownBy_setCell w R 0 u0) hne).trans (.of_grown (grownBy_setCell _ R 1 u1) hne)).trans (.of_grown (grownBy_setCell _ R 2 u2) hne))).mono hS

set_option maxRecDepth 100000 in
set_option maxHeartbeats 4000000 in
theorem refNumbers5 {S : Nat → Prop} {w : World} {x y : Ex} {v : Value} (h : ExprV S w (twoE 5 x y) v) (hx : x.op = 0) (hy : y.op = 0) (hsx : small x.num = true) (hsy : small y.num = true) :
    Calls Tryd.prog 97 #[v] w (Post w fun W' r => ExprV (fun b => S b ∨ w.heap.size ≤ b) W' (simpleE (twoE 5 x y)) r) := by
  obtain ⟨a, cap, b, off, a', c', b2, off2, a2, c2, rfl, hel, hel2⟩ := h.two
  obtain ⟨E, hE0⟩ : ∃ E, E = simpleE (twoE 5 x y) := ⟨_, rfl⟩
  rw [← hE0]
  have HEQ := Lib.hid hE0
  clear hE0
  obtain ⟨w0, hw0⟩ : ∃ w0, w0 = (w.alloc (.cells #[.int .i64 5, .int .i64 0, .slice a 2 cap] 24)).alloc (.cells #[.int .i64 0, .int .i64 0, .slice none 0 0] 24) := ⟨_, rfl⟩
  have e0 : Below w.heap.size w w0 := by rw [hw0]; exact ext_alloc' (ext_alloc w _) _
  have rE : Row w0 w.heap.size 24 [.int .i64 5, .int .i64 0, .slice a 2 cap] := by rw [hw0]; exact (row_new w [.int .i64 5, .int .i64 0, .slice a 2 cap] 24).alloc _
  have rR : Row w0 (w.heap.size + 1) 24 [.int .i64 0, .int .i64 0, .slice none 0 0] := by
    have r2 := row_new (w.alloc (.cells #[.int .i64 5, .int .i64 0, .slice a 2 cap] 24)) [.int .i64 0, .int .i64 0, .slice none 0 0] 24
    rw [World.size_alloc] at r2
    rw [hw0]
    exact r2
  have hEb := h.bound
  have xE := hEb.ext e0
  have eb := e0
  have hel := hel.ext e0
  have hel2 := hel2.ext e0
  have HX0 := Lib.hid hx
  have HY0 := Lib.hid hy
  have hsf := small_iff.1 hsx
  have hsl := small_iff.1 hsy
  obtain ⟨z, hz⟩ : ∃ z, z = cmpV 5 x.num y.num := ⟨_, rfl⟩
  have hzr := cmpV_range (op := 5) (by omega) (by omega) hsf hsl
  have TW := Lib.hid (fun W cs => (show Calls Tryd.prog 85 #[.int .i64 5, .int .i64 x.num, .int .i64 y.num, .agg cs] W (Post W fun _ r => r = .int .i64 z) from by
    rw [hz, ← cmpV_two sc0 (by omega) (by omega)]
    exact refTwo_rest W 5 x.num y.num cs (by omega) (by omega) ⟨by omega, by omega⟩ ⟨by omega, by omega⟩ (by omega)))
  rw [← hz] at hzr
  have HZ := Lib.hid hz
  clear hz hx hy hsx hsy hsf hsl h
  have q := hel.idx
  have q2 := hel2.idx
  have c1 := hel.c1
  have d1 := hel2.c1
  obtain ⟨x0, x1, x2⟩ := rE.three
  have hl := rE.lt
  have hl2 := rR.lt
  go_enter Tryd.func97, Tryd.ntmps97
  go_wp2_with fail
  rw [← hw0]
  clear hw0
  have hrefl := Below.refl w0.heap.size w0
  have KEEP : ∀ W', Below w0.heap.size w0 W' → (fun w' : World => w'.cell? ⟨w.heap.size, 0, none⟩ = some (.int .i64 5) ∧ w'.cell? ⟨w.heap.size, 2, none⟩ = some (.slice a 2 cap) ∧ w'.cell? ⟨b, off + 1, none⟩ = some (.int .i64 x.num) ∧ w'.cell? ⟨b2, off2 + 1, none⟩ = some (.int .i64 y.num) ∧ Below w0.heap.size w0 w') W' := fun W' hW' => ⟨cell_ext x0 hW', cell_ext x2 hW', cell_ext c1 hW', cell_ext d1 hW', hW'⟩
  have KEEP := Lib.hid KEEP
  go_region_held3 (fun w' : World => w'.cell? ⟨w.heap.size, 0, none⟩ = some (.int .i64 5) ∧ w'.cell? ⟨w.heap.size, 2, none⟩ = some (.slice a 2 cap) ∧ w'.cell? ⟨b, off + 1, none⟩ = some (.int .i64 x.num) ∧ w'.cell? ⟨b2, off2 + 1, none⟩ = some (.int .i64 y.num) ∧ Below w0.heap.size w0 w')
    (first | (apply KEEP.out; first | assumption | (apply Below.drew; assumption)))
    ((go_at_call 85; refine (TW.out _ _).mono ?_; rintro _ w2 ⟨_, rfl, hb2', rfl⟩; have hb2 : Below w0.heap.size w0 w2 := ext_trans (by (first | assumption | (apply Below.drew; assumption))) hb2'))
  clear hb2' KEEP q q2 c1 d1 hel hel2 x0 x1 x2 hl hl2
  have eb := ext_trans eb hb2
  have rE := rE.ext hb2
  have rR := rR.ext hb2
  have xE := xE.ext hb2
  obtain ⟨hzr0, hzr1⟩ := hzr
  have hl := rE.lt
  have hl2 := rR.lt
  have s2 := hb2.size
  obtain ⟨x0, x1, x2⟩ := rE.three
  obtain ⟨r0, r1, r2⟩ := rR.three
  have qr0 := rR.free 0
  have qr1 := rR.free 1
  have qr2 := rR.free 2
  cases gz : small z with
  | true =>
    have GZ := Lib.hid gz
    obtain ⟨z0, z1⟩ := small_iff.1 gz
    clear gz
    go_wp2_with fail
    refine (refNum_calls _ z).mono ?_
    rintro _ w3 ⟨_, rfl, hb3, rfl⟩
    have tb3 := hb3
    have x9 := ExprV.nilargs (fun b => w.heap.size + 2 ≤ b) w3 (op := 0) (num := z) (by unfold WF; omega) (by unfold WF; omega)
    clear x0 x1 x2 r0 r1 r2 qr0 qr1 qr2
    obtain ⟨x0, x1, x2⟩ := (rE.ext tb3).three
    obtain ⟨r0, r1, r2⟩ := (rR.ext tb3).three
    have qr0 := (rR.ext tb3).free 0
    have qr1 := (rR.ext tb3).free 1
    have qr2 := (rR.ext tb3).free 2
    go_wp2
    refine bodyPost_ret (v := .agg #[.int .i64 0, .int .i64 z, .slice none 0 0]) (by simp [results, Tryd.results97, go_sem, r0, r1, r2]) rfl ?_
    rw [show E = _ from (HEQ.out.trans (by unfold twoE; rw [simple_num (by omega) (by omega), nthE_two0, nthE_two1, if_pos ⟨HX0.out, HY0.out⟩, if_neg (by omega), ← HZ.out, if_pos GZ.out]; try rfl))]
    exact .mk (set3_below _ _ _ (ext_trans eb tb3) (by omega)) (set3_exprU _ _ _ x9 (fun hc => by omega) (fun b hc => .inr (by omega)))
  | false =>
    have GZ := Lib.hid gz
    have hzz : z < -1048576 ∨ 1048576 < z := by
      have : ¬ (-1048576 ≤ z ∧ z ≤ 1048576) := fun h => by rw [small_iff.2 h] at gz; cases gz
      omega
    clear gz
    rcases hzz with hzz | hzz
    all_goals
      go_wp2
      refine bodyPost_ret (v := .agg #[.int .i64 5, .int .i64 0, .slice a 2 cap]) (by simp [results, Tryd.results97, go_sem, r0, r1, r2]) rfl ?_
      rw [show E = _ from (HEQ.out.trans (by unfold twoE; rw [simple_num (by omega) (by omega), nthE_two0, nthE_two1, if_pos ⟨HX0.out, HY0.out⟩, if_neg (by omega), ← HZ.out, if_neg (by rw [GZ.out]; simp)]))]
      exact .mk (set3_below _ _ _ eb (by omega)) (set3_exprU _ _ _ xE (fun hc => by have := hc.2; omega) (fun b hc => .inl hc.1))

set_option maxRecDepth 100000 in
set_option maxHeartbeats 4000000 in
theorem refNumbers6 {S : Nat → Prop} {w : World} {x y : Ex} {v : Value} (h : ExprV S w (twoE 6 x y) v) (hx : x.op = 0) (hy : y.op = 0) (hsx : small x.num = true) (hsy : small y.num = true) :
    Calls Tryd.prog 97 #[v] w (Post w fun W' r => ExprV (fun b => S b ∨ w.heap.size ≤ b) W' (simpleE (twoE 6 x y)) r) := by
  obtain ⟨a, cap, b, off, a', c', b2, off2, a2, c2, rfl, hel, hel2⟩ := h.two
  obtain ⟨E, hE0⟩ : ∃ E, E = simpleE (twoE 6 x y) := ⟨_, rfl⟩
  rw [← hE0]
  have HEQ := Lib.hid hE0
  clear hE0
  obtain ⟨w0, hw0⟩ : ∃ w0, w0 = (w.alloc (.cells #[.int .i64 6, .int .i64 0, .slice a 2 cap] 24)).alloc (.cells #[.int .i64 0, .int .i64 0, .slice none 0 0] 24) := ⟨_, rfl⟩
  have e0 : Below w.heap.size w w0 := by rw [hw0]; exact ext_alloc' (ext_alloc w _) _
  have rE : Row w0 w.heap.size 24 [.int .i64 6, .int .i64 0, .slice a 2 cap] := by rw [hw0]; exact (row_new w [.int .i64 6, .int .i64 0, .slice a 2 cap] 24).alloc _
  have rR : Row w0 (w.heap.size + 1) 24 [.int .i64 0, .int .i64 0, .slice none 0 0] := by
    have r2 := row_new (w.alloc (.cells #[.int .i64 6, .int .i64 0, .slice a 2 cap] 24)) [.int .i64 0, .int .i64 0, .slice none 0 0] 24
    rw [World.size_alloc] at r2
    rw [hw0]
    exact r2
  have hEb := h.bound
  have xE := hEb.ext e0
  have eb := e0
  have hel := hel.ext e0
  have hel2 := hel2.ext e0
  have HX0 := Lib.hid hx
  have HY0 := Lib.hid hy
  have hsf := small_iff.1 hsx
  have hsl := small_iff.1 hsy
  obtain ⟨z, hz⟩ : ∃ z, z = cmpV 6 x.num y.num := ⟨_, rfl⟩
  have hzr := cmpV_range (op := 6) (by omega) (by omega) hsf hsl
  have TW := Lib.hid (fun W cs => (show Calls Tryd.prog 85 #[.int .i64 6, .int .i64 x.num, .int .i64 y.num, .agg cs] W (Post W fun _ r => r = .int .i64 z) from by
    rw [hz, ← cmpV_two sc0 (by omega) (by omega)]
    exact refTwo_rest W 6 x.num y.num cs (by omega) (by omega) ⟨by omega, by omega⟩ ⟨by omega, by omega⟩ (by omega)))
  rw [← hz] at hzr
  have HZ := Lib.hid hz
  clear hz hx hy hsx hsy hsf hsl h
  have q := hel.idx
  have q2 := hel2.idx
  have c1 := hel.c1
  have d1 := hel2.c1
  obtain ⟨x0, x1, x2⟩ := rE.three
  have hl := rE.lt
  have hl2 := rR.lt
  go_enter Tryd.func97, Tryd.ntmps97
  go_wp2_with fail
  rw [← hw0]
  clear hw0
  have hrefl := Below.refl w0.heap.size w0
  have KEEP : ∀ W', Below w0.heap.size w0 W' → (fun w' : World => w'.cell? ⟨w.heap.size, 0, none⟩ = some (.int .i64 6) ∧ w'.cell? ⟨w.heap.size, 2, none⟩ = some (.slice a 2 cap) ∧ w'.cell? ⟨b, off + 1, none⟩ = some (.int .i64 x.num) ∧ w'.cell? ⟨b2, off2 + 1, none⟩ = some (.int .i64 y.num) ∧ Below w0.heap.size w0 w') W' := fun W' hW' => ⟨cell_ext x0 hW', cell_ext x2 hW', cell_ext c1 hW', cell_ext d1 hW', hW'⟩
  have KEEP := Lib.hid KEEP
  go_region_held3 (fun w' : World => w'.cell? ⟨w.heap.size, 0, none⟩ = some (.int .i64 6) ∧ w'.cell? ⟨w.heap.size, 2, none⟩ = some (.slice a 2 cap) ∧ w'.cell? ⟨b, off + 1, none⟩ = some (.int .i64 x.num) ∧ w'.cell? ⟨b2, off2 + 1, none⟩ = some (.int .i64 y.num) ∧ Below w0.heap.size w0 w')
    (first | (apply KEEP.out; first | assumption | (apply Below.drew; assumption)))
    ((go_at_call 85; refine (TW.out _ _).mono ?_; rintro _ w2 ⟨_, rfl, hb2', rfl⟩; have hb2 : Below w0.heap.size w0 w2 := ext_trans (by (first | assumption | (apply Below.drew; assumption))) hb2'))
  clear hb2' KEEP q q2 c1 d1 hel hel2 x0 x1 x2 hl hl2
  have eb := ext_trans eb hb2
  have rE := rE.ext hb2
  have rR := rR.ext hb2
  have xE := xE.ext hb2
  obtain ⟨hzr0, hzr1⟩ := hzr
  have hl := rE.lt
  have hl2 := rR.lt
  have s2 := hb2.size
  obtain ⟨x0, x1, x2⟩ := rE.three
  obtain ⟨r0, r1, r2⟩ := rR.three
  have qr0 := rR.free 0
  have qr1 := rR.free 1
  have qr2 := rR.free 2
  cases gz : small z with
  | true =>
    have GZ := Lib.hid gz
    obtain ⟨z0, z1⟩ := small_iff.1 gz
    clear gz
    go_wp2_with fail
    refine (refNum_calls _ z).mono ?_
    rintro _ w3 ⟨_, rfl, hb3, rfl⟩
    have tb3 := hb3
    have x9 := ExprV.nilargs (fun b => w.heap.size + 2 ≤ b) w3 (op := 0) (num := z) (by unfold WF; omega) (by unfold WF; omega)
    clear x0 x1 x2 r0 r1 r2 qr0 qr1 qr2
    obtain ⟨x0, x1, x2⟩ := (rE.ext tb3).three
    obtain ⟨r0, r1, r2⟩ := (rR.ext tb3).three
    have qr0 := (rR.ext tb3).free 0
    have qr1 := (rR.ext tb3).free 1
    have qr2 := (rR.ext tb3).free 2
    go_wp2
    refine bodyPost_ret (v := .agg #[.int .i64 0, .int .i64 z, .slice none 0 0]) (by simp [results, Tryd.results97, go_sem, r0, r1, r2]) rfl ?_
    rw [show E = _ from (HEQ.out.trans (by unfold twoE; rw [simple_num (by omega) (by omega), nthE_two0, nthE_two1, if_pos ⟨HX0.out, HY0.out⟩, if_neg (by omega), ← HZ.out, if_pos GZ.out]; try rfl))]
    exact .mk (set3_below _ _ _ (ext_trans eb tb3) (by omega)) (set3_exprU _ _ _ x9 (fun hc => by omega) (fun b hc => .inr (by omega)))
  | false =>
    have GZ := Lib.hid gz
    have hzz : z < -1048576 ∨ 1048576 < z := by
      have : ¬ (-1048576 ≤ z ∧ z ≤ 1048576) := fun h => by rw [small_iff.2 h] at gz; cases gz
      omega
    clear gz
    rcases hzz with hzz | hzz
    all_goals
      go_wp2
      refine bodyPost_ret (v := .agg #[.int .i64 6, .int .i64 0, .slice a 2 cap]) (by simp [results, Tryd.results97, go_sem, r0, r1, r2]) rfl ?_
      rw [show E = _ from (HEQ.out.trans (by unfold twoE; rw [simple_num (by omega) (by omega), nthE_two0, nthE_two1, if_pos ⟨HX0.out, HY0.out⟩, if_neg (by omega), ← HZ.out, if_neg (by rw [GZ.out]; simp)]))]
      exact .mk (set3_below _ _ _ eb (by omega)) (set3_exprU _ _ _ xE (fun hc => by have := hc.2; omega) (fun b hc => .inl hc.1))

set_option maxRecDepth 100000 in
set_option maxHeartbeats 4000000 in
theorem refNumbers7 {S : Nat → Prop} {w : World} {x y : Ex} {v : Value} (h : ExprV S w (twoE 7 x y) v) (hx : x.op = 0) (hy : y.op = 0) (hsx : small x.num = true) (hsy : small y.num = true) :
    Calls Tryd.prog 97 #[v] w (Post w fun W' r => ExprV (fun b => S b ∨ w.heap.size ≤ b) W' (simpleE (twoE 7 x y)) r) := by
  obtain ⟨a, cap, b, off, a', c', b2, off2, a2, c2, rfl, hel, hel2⟩ := h.two
  obtain ⟨E, hE0⟩ : ∃ E, E = simpleE (twoE 7 x y) := ⟨_, rfl⟩
  rw [← hE0]
  have HEQ := Lib.hid hE0
  clear hE0
  obtain ⟨w0, hw0⟩ : ∃ w0, w0 = (w.alloc (.cells #[.int .i64 7, .int .i64 0, .slice a 2 cap] 24)).alloc (.cells #[.int .i64 0, .int .i64 0, .slice none 0 0] 24) := ⟨_, rfl⟩
  have e0 : Below w.heap.size w w0 := by rw [hw0]; exact ext_alloc' (ext_alloc w _) _
  have rE : Row w0 w.heap.size 24 [.int .i64 7, .int .i64 0, .slice a 2 cap] := by rw [hw0]; exact (row_new w [.int .i64 7, .int .i64 0, .slice a 2 cap] 24).alloc _
  have rR : Row w0 (w.heap.size + 1) 24 [.int .i64 0, .int .i64 0, .slice none 0 0] := by
    have r2 := row_new (w.alloc (.cells #[.int .i64 7, .int .i64 0, .slice a 2 cap] 24)) [.int .i64 0, .int .i64 0, .slice none 0 0] 24
    rw [World.size_alloc] at r2
    rw [hw0]
    exact r2
  have hEb := h.bound
  have xE := hEb.ext e0
  have eb := e0
  have hel := hel.ext e0
  have hel2 := hel2.ext e0
  have HX0 := Lib.hid hx
  have HY0 := Lib.hid hy
  have hsf := small_iff.1 hsx
  have hsl := small_iff.1 hsy
  obtain ⟨z, hz⟩ : ∃ z, z = cmpV 7 x.num y.num := ⟨_, rfl⟩
  have hzr := cmpV_range (op := 7) (by omega) (by omega) hsf hsl
  have TW := Lib.hid (fun W cs => (show Calls Tryd.prog 85 #[.int .i64 7, .int .i64 x.num, .int .i64 y.num, .agg cs] W (Post W fun _ r => r = .int .i64 z) from by
    rw [hz, ← cmpV_two sc0 (by omega) (by omega)]
    exact refTwo_rest W 7 x.num y.num cs (by omega) (by omega) ⟨by omega, by omega⟩ ⟨by omega, by omega⟩ (by omega)))
  rw [← hz] at hzr
  have HZ := Lib.hid hz
  clear hz hx hy hsx hsy hsf hsl h
  have q := hel.idx
  have q2 := hel2.idx
  have c1 := hel.c1
  have d1 := hel2.c1
  obtain ⟨x0, x1, x2⟩ := rE.three
  have hl := rE.lt
  have hl2 := rR.lt
  go_enter Tryd.func97, Tryd.ntmps97
  go_wp2_with fail
  rw [← hw0]
  clear hw0
  have hrefl := Below.refl w0.heap.size w0
  have KEEP : ∀ W', Below w0.heap.size w0 W' → (fun w' : World => w'.cell? ⟨w.heap.size, 0, none⟩ = some (.int .i64 7) ∧ w'.cell? ⟨w.heap.size, 2, none⟩ = some (.slice a 2 cap) ∧ w'.cell? ⟨b, off + 1, none⟩ = some (.int .i64 x.num) ∧ w'.cell? ⟨b2, off2 + 1, none⟩ = some (.int .i64 y.num) ∧ Below w0.heap.size w0 w') W' := fun W' hW' => ⟨cell_ext x0 hW', cell_ext x2 hW', cell_ext c1 hW', cell_ext d1 hW', hW'⟩
  have KEEP := Lib.hid KEEP
  go_region_held3 (fun w' : World => w'.cell? ⟨w.heap.size, 0, none⟩ = some (.int .i64 7) ∧ w'.cell? ⟨w.heap.size, 2, none⟩ = some (.slice a 2 cap) ∧ w'.cell? ⟨b, off + 1, none⟩ = some (.int .i64 x.num) ∧ w'.cell? ⟨b2, off2 + 1, none⟩ = some (.int .i64 y.num) ∧ Below w0.heap.size w0 w')
    (first | (apply KEEP.out; first | assumption | (apply Below.drew; assumption)))
    ((go_at_call 85; refine (TW.out _ _).mono ?_; rintro _ w2 ⟨_, rfl, hb2', rfl⟩; have hb2 : Below w0.heap.size w0 w2 := ext_trans (by (first | assumption | (apply Below.drew; assumption))) hb2'))
  clear hb2' KEEP q q2 c1 d1 hel hel2 x0 x1 x2 hl hl2
  have eb := ext_trans eb hb2
  have rE := rE.ext hb2
  have rR := rR.ext hb2
  have xE := xE.ext hb2
  obtain ⟨hzr0, hzr1⟩ := hzr
  have hl := rE.lt
  have hl2 := rR.lt
  have s2 := hb2.size
  obtain ⟨x0, x1, x2⟩ := rE.three
  obtain ⟨r0, r1, r2⟩ := rR.three
  have qr0 := rR.free 0
  have qr1 := rR.free 1
  have qr2 := rR.free 2
  go_wp2_with fail
  refine (refFlag_calls _ (z == 1)).mono ?_
  rintro _ w3 ⟨v9, rfl, hb3, x9⟩
  have tb3 := hb3
  have s9 := ((Below.refl w2.heap.size w2)).size
  have x9' := x9.mono (S' := fun b => w.heap.size + 2 ≤ b) (by intro b h; omega)
  obtain ⟨K, hK⟩ : ∃ K, K = flagE (z == 1) := ⟨_, rfl⟩
  rw [← hK] at x9'
  have HK := Lib.hid hK
  clear hK x9
  obtain ⟨a9, c9, rfl, _⟩ := x9'.parts
  clear x0 x1 x2 r0 r1 r2 qr0 qr1 qr2
  obtain ⟨x0, x1, x2⟩ := (rE.ext tb3).three
  obtain ⟨r0, r1, r2⟩ := (rR.ext tb3).three
  have qr0 := (rR.ext tb3).free 0
  have qr1 := (rR.ext tb3).free 1
  have qr2 := (rR.ext tb3).free 2
  go_wp2
  refine bodyPost_ret (v := .agg #[.int .i64 K.op, .int .i64 K.num, .slice a9 K.args.length c9]) (by simp [results, Tryd.results97, go_sem, r0, r1, r2]) rfl ?_
  rw [show E = _ from (HEQ.out.trans (by unfold twoE; rw [simple_num (by omega) (by omega), nthE_two0, nthE_two1, if_pos ⟨HX0.out, HY0.out⟩, if_pos (by omega), ← HZ.out]; try rfl)).trans HK.out.symm]
  exact .mk (set3_below _ _ _ (ext_trans eb tb3) (by omega)) (set3_exprU _ _ _ x9' (fun hc => by omega) (fun b hc => .inr (by omega)))

set_option maxRecDepth 100000 in
set_option maxHeartbeats 4000000 in
theorem refNumbers8 {S : Nat → Prop} {w : World} {x y : Ex} {v : Value} (h : ExprV S w (twoE 8 x y) v) (hx : x.op = 0) (hy : y.op = 0) (hsx : small x.num = true) (hsy : small y.num = true) :
    Calls Tryd.prog 97 #[v] w (Post w fun W' r => ExprV (fun b => S b ∨ w.heap.size ≤ b) W' (simpleE (twoE 8 x y)) r) := by
  obtain ⟨a, cap, b, off, a', c', b2, off2, a2, c2, rfl, hel, hel2⟩ := h.two
  obtain ⟨E, hE0⟩ : ∃ E, E = simpleE (twoE 8 x y) := ⟨_, rfl⟩
  rw [← hE0]
  have HEQ := Lib.hid hE0
  clear hE0
  obtain ⟨w0, hw0⟩ : ∃ w0, w0 = (w.alloc (.cells #[.int .i64 8, .int .i64 0, .slice a 2 cap] 24)).alloc (.cells #[.int .i64 0, .int .i64 0, .slice none 0 0] 24) := ⟨_, rfl⟩
  have e0 : Below w.heap.size w w0 := by rw [hw0]; exact ext_alloc' (ext_alloc w _) _
  have rE : Row w0 w.heap.size 24 [.int .i64 8, .int .i64 0, .slice a 2 cap] := by rw [hw0]; exact (row_new w [.int .i64 8, .int .i64 0, .slice a 2 cap] 24).alloc _
  have rR : Row w0 (w.heap.size + 1) 24 [.int .i64 0, .int .i64 0, .slice none 0 0] := by
    have r2 := row_new (w.alloc (.cells #[.int .i64 8, .int .i64 0, .slice a 2 cap] 24)) [.int .i64 0, .int .i64 0, .slice none 0 0] 24
    rw [World.size_alloc] at r2
    rw [hw0]
    exact r2
  have hEb := h.bound
  have xE := hEb.ext e0
  have eb := e0
  have hel := hel.ext e0
  have hel2 := hel2.ext e0
  have HX0 := Lib.hid hx
  have HY0 := Lib.hid hy
  have hsf := small_iff.1 hsx
  have hsl := small_iff.1 hsy
  obtain ⟨z, hz⟩ : ∃ z, z = cmpV 8 x.num y.num := ⟨_, rfl⟩
  have hzr := cmpV_range (op := 8) (by omega) (by omega) hsf hsl
  have TW := Lib.hid (fun W cs => (show Calls Tryd.prog 85 #[.int .i64 8, .int .i64 x.num, .int .i64 y.num, .agg cs] W (Post W fun _ r => r = .int .i64 z) from by
    rw [hz, ← cmpV_two sc0 (by omega) (by omega)]
    exact refTwo_rest W 8 x.num y.num cs (by omega) (by omega) ⟨by omega, by omega⟩ ⟨by omega, by omega⟩ (by omega)))
  rw [← hz] at hzr
  have HZ := Lib.hid hz
  clear hz hx hy hsx hsy hsf hsl h
  have q := hel.idx
  have q2 := hel2.idx
  have c1 := hel.c1
  have d1 := hel2.c1
  obtain ⟨x0, x1, x2⟩ := rE.three
  have hl := rE.lt
  have hl2 := rR.lt
  go_enter Tryd.func97, Tryd.ntmps97
  go_wp2_with fail
  rw [← hw0]
  clear hw0
  have hrefl := Below.refl w0.heap.size w0
  have KEEP : ∀ W', Below w0.heap.size w0 W' → (fun w' : World => w'.cell? ⟨w.heap.size, 0, none⟩ = some (.int .i64 8) ∧ w'.cell? ⟨w.heap.size, 2, none⟩ = some (.slice a 2 cap) ∧ w'.cell? ⟨b, off + 1, none⟩ = some (.int .i64 x.num) ∧ w'.cell? ⟨b2, off2 + 1, none⟩ = some (.int .i64 y.num) ∧ Below w0.heap.size w0 w') W' := fun W' hW' => ⟨cell_ext x0 hW', cell_ext x2 hW', cell_ext c1 hW', cell_ext d1 hW', hW'⟩
  have KEEP := Lib.hid KEEP
  go_region_held3 (fun w' : World => w'.cell? ⟨w.heap.size, 0, none⟩ = some (.int .i64 8) ∧ w'.cell? ⟨w.heap.size, 2, none⟩ = some (.slice a 2 cap) ∧ w'.cell? ⟨b, off + 1, none⟩ = some (.int .i64 x.num) ∧ w'.cell? ⟨b2, off2 + 1, none⟩ = some (.int .i64 y.num) ∧ Below w0.heap.size w0 w')
    (first | (apply KEEP.out; first | assumption | (apply Below.drew; assumption)))
    ((go_at_call 85; refine (TW.out _ _).mono ?_; rintro _ w2 ⟨_, rfl, hb2', rfl⟩; have hb2 : Below w0.heap.size w0 w2 := ext_trans (by (first | assumption | (apply Below.drew; assumption))) hb2'))
  clear hb2' KEEP q q2 c1 d1 hel hel2 x0 x1 x2 hl hl2
  have eb := ext_trans eb hb2
  have rE := rE.ext hb2
  have rR := rR.ext hb2
  have xE := xE.ext hb2
  obtain ⟨hzr0, hzr1⟩ := hzr
  have hl := rE.lt
  have hl2 := rR.lt
  have s2 := hb2.size
  obtain ⟨x0, x1, x2⟩ := rE.three
  obtain ⟨r0, r1, r2⟩ := rR.three
  have qr0 := rR.free 0
  have qr1 := rR.free 1
  have qr2 := rR.free 2
  go_wp2_with fail
  refine (refFlag_calls _ (z == 1)).mono ?_
  rintro _ w3 ⟨v9, rfl, hb3, x9⟩
  have tb3 := hb3
  have s9 := ((Below.refl w2.heap.size w2)).size
  have x9' := x9.mono (S' := fun b => w.heap.size + 2 ≤ b) (by intro b h; omega)
  obtain ⟨K, hK⟩ : ∃ K, K = flagE (z == 1) := ⟨_, rfl⟩
  rw [← hK] at x9'
  have HK := Lib.hid hK
  clear hK x9
  obtain ⟨a9, c9, rfl, _⟩ := x9'.parts
  clear x0 x1 x2 r0 r1 r2 qr0 qr1 qr2
  obtain ⟨x0, x1, x2⟩ := (rE.ext tb3).three
  obtain ⟨r0, r1, r2⟩ := (rR.ext tb3).three
  have qr0 := (rR.ext tb3).free 0
  have qr1 := (rR.ext tb3).free 1
  have qr2 := (rR.ext tb3).free 2
  go_wp2
  refine bodyPost_ret (v := .agg #[.int .i64 K.op, .int .i64 K.num, .slice a9 K.args.length c9]) (by simp [results, Tryd.results97, go_sem, r0, r1, r2]) rfl ?_
  rw [show E = _ from (HEQ.out.trans (by unfold twoE; rw [simple_num (by omega) (by omega), nthE_two0, nthE_two1, if_pos ⟨HX0.out, HY0.out⟩, if_pos (by omega), ← HZ.out]; try rfl)).trans HK.out.symm]
  exact .mk (set3_below _ _ _ (ext_trans eb tb3) (by omega)) (set3_exprU _ _ _ x9' (fun hc => by omega) (fun b hc => .inr (by omega)))

set_option maxRecDepth 100000 in
set_option maxHeartbeats 4000000 in
theorem refNumbers9 {S : Nat → Prop} {w : World} {x y : Ex} {v : Value} (h : ExprV S w (twoE 9 x y) v) (hx : x.op = 0) (hy : y.op = 0) (hsx : small x.num = true) (hsy : small y.num = true) :
    Calls Tryd.prog 97 #[v] w (Post w fun W' r => ExprV (fun b => S b ∨ w.heap.size ≤ b) W' (simpleE (twoE 9 x y)) r) := by
  obtain ⟨a, cap, b, off, a', c', b2, off2, a2, c2, rfl, hel, hel2⟩ := h.two
  obtain ⟨E, hE0⟩ : ∃ E, E = simpleE (twoE 9 x y) := ⟨_, rfl⟩
  rw [← hE0]
  have HEQ := Lib.hid hE0
  clear hE0
  obtain ⟨w0, hw0⟩ : ∃ w0, w0 = (w.alloc (.cells #[.int .i64 9, .int .i64 0, .slice a 2 cap] 24)).alloc (.cells #[.int .i64 0, .int .i64 0, .slice none 0 0] 24) := ⟨_, rfl⟩
  have e0 : Below w.heap.size w w0 := by rw [hw0]; exact ext_alloc' (ext_alloc w _) _
  have rE : Row w0 w.heap.size 24 [.int .i64 9, .int .i64 0, .slice a 2 cap] := by rw [hw0]; exact (row_new w [.int .i64 9, .int .i64 0, .slice a 2 cap] 24).alloc _
  have rR : Row w0 (w.heap.size + 1) 24 [.int .i64 0, .int .i64 0, .slice none 0 0] := by
    have r2 := row_new (w.alloc (.cells #[.int .i64 9, .int .i64 0, .slice a 2 cap] 24)) [.int .i64 0, .int .i64 0, .slice none 0 0] 24
    rw [World.size_alloc] at r2
    rw [hw0]
    exact r2
  have hEb := h.bound
  have xE := hEb.ext e0
  have eb := e0
  have hel := hel.ext e0
  have hel2 := hel2.ext e0
  have HX0 := Lib.hid hx
  have HY0 := Lib.hid hy
  have hsf := small_iff.1 hsx
  have hsl := small_iff.1 hsy
  obtain ⟨z, hz⟩ : ∃ z, z = cmpV 9 x.num y.num := ⟨_, rfl⟩
  have hzr := cmpV_range (op := 9) (by omega) (by omega) hsf hsl
  have TW := Lib.hid (fun W cs => (show Calls Tryd.prog 85 #[.int .i64 9, .int .i64 x.num, .int .i64 y.num, .agg cs] W (Post W fun _ r => r = .int .i64 z) from by
    rw [hz, ← cmpV_two sc0 (by omega) (by omega)]
    exact refTwo_rest W 9 x.num y.num cs (by omega) (by omega) ⟨by omega, by omega⟩ ⟨by omega, by omega⟩ (by omega)))
  rw [← hz] at hzr
  have HZ := Lib.hid hz
  clear hz hx hy hsx hsy hsf hsl h
  have q := hel.idx
  have q2 := hel2.idx
  have c1 := hel.c1
  have d1 := hel2.c1
  obtain ⟨x0, x1, x2⟩ := rE.three
  have hl := rE.lt
  have hl2 := rR.lt
  go_enter Tryd.func97, Tryd.ntmps97
  go_wp2_with fail
  rw [← hw0]
  clear hw0
  have hrefl := Below.refl w0.heap.size w0
  have KEEP : ∀ W', Below w0.heap.size w0 W' → (fun w' : World => w'.cell? ⟨w.heap.size, 0, none⟩ = some (.int .i64 9) ∧ w'.cell? ⟨w.heap.size, 2, none⟩ = some (.slice a 2 cap) ∧ w'.cell? ⟨b, off + 1, none⟩ = some (.int .i64 x.num) ∧ w'.cell? ⟨b2, off2 + 1, none⟩ = some (.int .i64 y.num) ∧ Below w0.heap.size w0 w') W' := fun W' hW' => ⟨cell_ext x0 hW', cell_ext x2 hW', cell_ext c1 hW', cell_ext d1 hW', hW'⟩
  have KEEP := Lib.hid KEEP
  go_region_held3 (fun w' : World => w'.cell? ⟨w.heap.size, 0, none⟩ = some (.int .i64 9) ∧ w'.cell? ⟨w.heap.size, 2, none⟩ = some (.slice a 2 cap) ∧ w'.cell? ⟨b, off + 1, none⟩ = some (.int .i64 x.num) ∧ w'.cell? ⟨b2, off2 + 1, none⟩ = some (.int .i64 y.num) ∧ Below w0.heap.size w0 w')
    (first | (apply KEEP.out; first | assumption | (apply Below.drew; assumption)))
    ((go_at_call 85; refine (TW.out _ _).mono ?_; rintro _ w2 ⟨_, rfl, hb2', rfl⟩; have hb2 : Below w0.heap.size w0 w2 := ext_trans (by (first | assumption | (apply Below.drew; assumption))) hb2'))
  clear hb2' KEEP q q2 c1 d1 hel hel2 x0 x1 x2 hl hl2
  have eb := ext_trans eb hb2
  have rE := rE.ext hb2
  have rR := rR.ext hb2
  have xE := xE.ext hb2
  obtain ⟨hzr0, hzr1⟩ := hzr
  have hl := rE.lt
  have hl2 := rR.lt
  have s2 := hb2.size
  obtain ⟨x0, x1, x2⟩ := rE.three
  obtain ⟨r0, r1, r2⟩ := rR.three
  have qr0 := rR.free 0
  have qr1 := rR.free 1
  have qr2 := rR.free 2
  go_wp2_with fail
  refine (refFlag_calls _ (z == 1)).mono ?_
  rintro _ w3 ⟨v9, rfl, hb3, x9⟩
  have tb3 := hb3
  have s9 := ((Below.refl w2.heap.size w2)).size
  have x9' := x9.mono (S' := fun b => w.heap.size + 2 ≤ b) (by intro b h; omega)
  obtain ⟨K, hK⟩ : ∃ K, K = flagE (z == 1) := ⟨_, rfl⟩
  rw [← hK] at x9'
  have HK := Lib.hid hK
  clear hK x9
  obtain ⟨a9, c9, rfl, _⟩ := x9'.parts
  clear x0 x1 x2 r0 r1 r2 qr0 qr1 qr2
  obtain ⟨x0, x1, x2⟩ := (rE.ext tb3).three
  obtain ⟨r0, r1, r2⟩ := (rR.ext tb3).three
  have qr0 := (rR.ext tb3).free 0
  have qr1 := (rR.ext tb3).free 1
  have qr2 := (rR.ext tb3).free 2
  go_wp2
  refine bodyPost_ret (v := .agg #[.int .i64 K.op, .int .i64 K.num, .slice a9 K.args.length c9]) (by simp [results, Tryd.results97, go_sem, r0, r1, r2]) rfl ?_
  rw [show E = _ from (HEQ.out.trans (by unfold twoE; rw [simple_num (by omega) (by omega), nthE_two0, nthE_two1, if_pos ⟨HX0.out, HY0.out⟩, if_pos (by omega), ← HZ.out]; try rfl)).trans HK.out.symm]
  exact .mk (set3_below _ _ _ (ext_trans eb tb3) (by omega)) (set3_exprU _ _ _ x9' (fun hc => by omega) (fun b hc => .inr (by omega)))

set_option maxRecDepth 100000 in
set_option maxHeartbeats 4000000 in
theorem refLogic10 {S : Nat → Prop} {w : World} {x y : Ex} {v : Value} (h : ExprV S w (twoE 10 x y) v) :
    Calls Tryd.prog 98 #[v, .bool true] w (Post w fun W' r => ExprV (fun b => S b ∨ w.heap.size ≤ b) W' (simpleE (twoE 10 x y)) r) := by
  obtain ⟨a, cap, b, off, a', c', b2, off2, a2, c2, rfl, hel, hel2⟩ := h.bound.two
  obtain ⟨E, hE0⟩ : ∃ E, E = simpleE (twoE 10 x y) := ⟨_, rfl⟩
  rw [← hE0]
  have HEQ := Lib.hid hE0
  clear hE0
  obtain ⟨w0, hw0⟩ : ∃ w0, w0 = (w.alloc (.cells #[.int .i64 10, .int .i64 0, .slice a 2 cap] 24)).alloc (.cells #[.int .i64 0, .int .i64 0, .slice none 0 0] 24) := ⟨_, rfl⟩
  have e0 : Below w.heap.size w w0 := by rw [hw0]; exact ext_alloc' (ext_alloc w _) _
  have rE : Row w0 w.heap.size 24 [.int .i64 10, .int .i64 0, .slice a 2 cap] := by rw [hw0]; exact (row_new w [.int .i64 10, .int .i64 0, .slice a 2 cap] 24).alloc _
  have rR : Row w0 (w.heap.size + 1) 24 [.int .i64 0, .int .i64 0, .slice none 0 0] := by
    have r2 := row_new (w.alloc (.cells #[.int .i64 10, .int .i64 0, .slice a 2 cap] 24)) [.int .i64 0, .int .i64 0, .slice none 0 0] 24
    rw [World.size_alloc] at r2
    rw [hw0]
    exact r2
  have hEb := h.bound
  have xE := hEb.ext e0
  have eb := e0
  have hel := hel.ext e0
  have hel2 := hel2.ext e0
  clear h
  have q := hel.idx
  have q2 := hel2.idx
  have f0 := hel.c0
  have f1 := hel.c1
  have f2 := hel.c2
  have l0 := hel2.c0
  have l1 := hel2.c1
  have l2 := hel2.c2
  have hexF := hel.ex.bound
  have hexL := hel2.ex.bound
  obtain ⟨x0, x1, x2⟩ := rE.three
  have hl := rE.lt
  have hl2 := rR.lt
  have n1 := World.new_ne w0 _ x2
  have n2 := World.new_ne w0 _ f0
  have n3 := World.new_ne w0 _ f1
  have n4 := World.new_ne w0 _ f2
  have n5 := World.new_ne w0 _ l0
  have n6 := World.new_ne w0 _ l1
  have n7 := World.new_ne w0 _ l2
  go_enter Tryd.func98, Tryd.ntmps98
  go_wp2_with fail
  rw [← hw0]
  clear hw0
  go_region_held3 (fun w' : World => w'.cell? ⟨w.heap.size, 2, none⟩ = some (.slice a 2 cap) ∧ w'.cell? ⟨b, off, none⟩ = some (.int .i64 x.op) ∧ w'.cell? ⟨b, off + 1, none⟩ = some (.int .i64 x.num) ∧ w'.cell? ⟨b, off + 2, none⟩ = some (.slice a' x.args.length c') ∧ w'.cell? ⟨b2, off2, none⟩ = some (.int .i64 y.op) ∧ w'.cell? ⟨b2, off2 + 1, none⟩ = some (.int .i64 y.num) ∧ w'.cell? ⟨b2, off2 + 2, none⟩ = some (.slice a2 y.args.length c2)) (go_keep) (fail)
  · obtain ⟨w2, hw2⟩ : ∃ w2, w2 = ((w0.alloc (.cells #[.int .i64 x.op, .int .i64 x.num, .slice a' x.args.length c'] 24)).alloc (.cells #[.int .i64 y.op, .int .i64 y.num, .slice a2 y.args.length c2] 24)).drew := ⟨_, rfl⟩
    rw [← hw2]
    have hb2 : Below w0.heap.size w0 w2 := by rw [hw2]; exact (ext_alloc' (ext_alloc w0 _) _).drew
    have rF : Row w2 w0.heap.size 24 [.int .i64 x.op, .int .i64 x.num, .slice a' x.args.length c'] := by rw [hw2]; exact (row_new w0 [.int .i64 x.op, .int .i64 x.num, .slice a' x.args.length c'] 24).alloc _
    have rL : Row w2 (w0.heap.size + 1) 24 [.int .i64 y.op, .int .i64 y.num, .slice a2 y.args.length c2] := by
      rw [hw2]
      have h := row_new (w0.alloc (.cells #[.int .i64 x.op, .int .i64 x.num, .slice a' x.args.length c'] 24)) [.int .i64 y.op, .int .i64 y.num, .slice a2 y.args.length c2] 24
      rw [World.size_alloc] at h
      exact h
    clear hw2
    have eb := ext_trans eb hb2
    have rE := rE.ext hb2
    have rR := rR.ext hb2
    have xE := xE.ext hb2
    have xF := (hel.ex.mono (S' := fun b => S b ∧ b < w.heap.size) (fun b h => h)).ext hb2
    have xL := (hel2.ex.mono (S' := fun b => S b ∧ b < w.heap.size) (fun b h => h)).ext hb2
    have s2 := hb2.size
    clear x0 x1 x2 f0 f1 f2 l0 l1 l2 n1 n2 n3 n4 n5 n6 n7 q q2
    obtain ⟨x0, x1, x2⟩ := rE.three
    obtain ⟨f0, f1, f2⟩ := rF.three
    obtain ⟨l0, l1, l2⟩ := rL.three
    obtain ⟨r0, r1, r2⟩ := rR.three
    have qr0 := rR.free 0
    have qr1 := rR.free 1
    have qr2 := rR.free 2
    go_wp2_with fail
    refine (refIs_calls xF true).mono ?_
    rintro _ w3 ⟨_, rfl, hb3, rfl⟩
    have tb3 := hb3
    clear x0 x1 x2 f0 f1 f2 l0 l1 l2 r0 r1 r2 qr0 qr1 qr2
    obtain ⟨x0, x1, x2⟩ := (rE.ext tb3).three
    obtain ⟨f0, f1, f2⟩ := (rF.ext tb3).three
    obtain ⟨l0, l1, l2⟩ := (rL.ext tb3).three
    obtain ⟨r0, r1, r2⟩ := (rR.ext tb3).three
    have qr0 := (rR.ext tb3).free 0
    have qr1 := (rR.ext tb3).free 1
    have qr2 := (rR.ext tb3).free 2
    cases g3 : isE x true with
    | true =>
      have G3 := Lib.hid g3
      clear g3
      go_wp2
      refine bodyPost_ret (v := .agg #[.int .i64 y.op, .int .i64 y.num, .slice a2 y.args.length c2]) (by simp [results, Tryd.results98, go_sem, r0, r1, r2]) rfl ?_
      rw [show E = _ from (HEQ.out.trans (by unfold twoE; rw [simple_logic (by omega), nthE_two0, nthE_two1, show decide ((10 : Int) = 10) = true from rfl, show (!true) = false from rfl, if_pos G3.out]))]
      exact .mk (set3_below _ _ _ (ext_trans eb tb3) (by omega)) (set3_exprU _ _ _ (xL.ext tb3) (fun hc => by have := hc.2; omega) (fun b hc => .inl hc.1))
    | false =>
      have G3 := Lib.hid g3
      clear g3
      go_wp2_with fail
      refine (refIs_calls (xL.ext tb3) true).mono ?_
      rintro _ w4 ⟨_, rfl, hb4, rfl⟩
      have tb4 := ext_trans tb3 hb4
      clear x0 x1 x2 f0 f1 f2 l0 l1 l2 r0 r1 r2 qr0 qr1 qr2
      obtain ⟨x0, x1, x2⟩ := (rE.ext tb4).three
      obtain ⟨f0, f1, f2⟩ := (rF.ext tb4).three
      obtain ⟨l0, l1, l2⟩ := (rL.ext tb4).three
      obtain ⟨r0, r1, r2⟩ := (rR.ext tb4).three
      have qr0 := (rR.ext tb4).free 0
      have qr1 := (rR.ext tb4).free 1
      have qr2 := (rR.ext tb4).free 2
      cases g4 : isE y true with
      | true =>
        have G4 := Lib.hid g4
        clear g4
        go_wp2
        refine bodyPost_ret (v := .agg #[.int .i64 x.op, .int .i64 x.num, .slice a' x.args.length c']) (by simp [results, Tryd.results98, go_sem, r0, r1, r2]) rfl ?_
        rw [show E = _ from (HEQ.out.trans (by unfold twoE; rw [simple_logic (by omega), nthE_two0, nthE_two1, show decide ((10 : Int) = 10) = true from rfl, show (!true) = false from rfl, if_neg (by rw [G3.out]; simp), if_pos G4.out]))]
        exact .mk (set3_below _ _ _ (ext_trans eb tb4) (by omega)) (set3_exprU _ _ _ (xF.ext tb4) (fun hc => by have := hc.2; omega) (fun b hc => .inl hc.1))
      | false =>
        have G4 := Lib.hid g4
        clear g4
        go_wp2_with fail
        refine (refIs_calls (xF.ext tb4) false).mono ?_
        rintro _ w5 ⟨_, rfl, hb5, rfl⟩
        have tb5 := ext_trans tb4 hb5
        clear x0 x1 x2 f0 f1 f2 l0 l1 l2 r0 r1 r2 qr0 qr1 qr2
        obtain ⟨x0, x1, x2⟩ := (rE.ext tb5).three
        obtain ⟨f0, f1, f2⟩ := (rF.ext tb5).three
        obtain ⟨l0, l1, l2⟩ := (rL.ext tb5).three
        obtain ⟨r0, r1, r2⟩ := (rR.ext tb5).three
        have qr0 := (rR.ext tb5).free 0
        have qr1 := (rR.ext tb5).free 1
        have qr2 := (rR.ext tb5).free 2
        cases g5 : isE x false with
        | true =>
          have G5 := Lib.hid g5
          clear g5
          go_wp2_with fail
          refine (refFlag_calls _ false).mono ?_
          rintro _ w6 ⟨v9, rfl, hb6, x9⟩
          have tb6 := ext_trans tb5 hb6
          have s9 := (tb5).size
          have x9' := x9.mono (S' := fun b => w.heap.size + 2 ≤ b) (by intro b h; omega)
          obtain ⟨K, hK⟩ : ∃ K, K = flagE false := ⟨_, rfl⟩
          rw [← hK] at x9'
          have HK := Lib.hid hK
          clear hK x9
          obtain ⟨a9, c9, rfl, _⟩ := x9'.parts
          clear x0 x1 x2 f0 f1 f2 l0 l1 l2 r0 r1 r2 qr0 qr1 qr2
          obtain ⟨x0, x1, x2⟩ := (rE.ext tb6).three
          obtain ⟨f0, f1, f2⟩ := (rF.ext tb6).three
          obtain ⟨l0, l1, l2⟩ := (rL.ext tb6).three
          obtain ⟨r0, r1, r2⟩ := (rR.ext tb6).three
          have qr0 := (rR.ext tb6).free 0
          have qr1 := (rR.ext tb6).free 1
          have qr2 := (rR.ext tb6).free 2
          go_wp2
          refine bodyPost_ret (v := .agg #[.int .i64 K.op, .int .i64 K.num, .slice a9 K.args.length c9]) (by simp [results, Tryd.results98, go_sem, r0, r1, r2]) rfl ?_
          rw [show E = _ from (HEQ.out.trans (by unfold twoE; rw [simple_logic (by omega), nthE_two0, nthE_two1, show decide ((10 : Int) = 10) = true from rfl, show (!true) = false from rfl, if_neg (by rw [G3.out]; simp), if_neg (by rw [G4.out]; simp), if_pos (.inl G5.out)])).trans HK.out.symm]
          exact .mk (set3_below _ _ _ (ext_trans eb tb6) (by omega)) (set3_exprU _ _ _ x9' (fun hc => by omega) (fun b hc => .inr (by omega)))
        | false =>
          have G5 := Lib.hid g5
          clear g5
          go_wp2_with fail
          refine (refIs_calls (xL.ext tb5) false).mono ?_
          rintro _ w7 ⟨_, rfl, hb7, rfl⟩
          have tb7 := ext_trans tb5 hb7
          clear x0 x1 x2 f0 f1 f2 l0 l1 l2 r0 r1 r2 qr0 qr1 qr2
          obtain ⟨x0, x1, x2⟩ := (rE.ext tb7).three
          obtain ⟨f0, f1, f2⟩ := (rF.ext tb7).three
          obtain ⟨l0, l1, l2⟩ := (rL.ext tb7).three
          obtain ⟨r0, r1, r2⟩ := (rR.ext tb7).three
          have qr0 := (rR.ext tb7).free 0
          have qr1 := (rR.ext tb7).free 1
          have qr2 := (rR.ext tb7).free 2
          cases g7 : isE y false with
          | true =>
            have G7 := Lib.hid g7
            clear g7
            go_wp2_with fail
            refine (refFlag_calls _ false).mono ?_
            rintro _ w8 ⟨v9, rfl, hb8, x9⟩
            have tb8 := ext_trans tb7 hb8
            have s9 := (tb7).size
            have x9' := x9.mono (S' := fun b => w.heap.size + 2 ≤ b) (by intro b h; omega)
            obtain ⟨K, hK⟩ : ∃ K, K = flagE false := ⟨_, rfl⟩
            rw [← hK] at x9'
            have HK := Lib.hid hK
            clear hK x9
            obtain ⟨a9, c9, rfl, _⟩ := x9'.parts
            clear x0 x1 x2 f0 f1 f2 l0 l1 l2 r0 r1 r2 qr0 qr1 qr2
            obtain ⟨x0, x1, x2⟩ := (rE.ext tb8).three
            obtain ⟨f0, f1, f2⟩ := (rF.ext tb8).three
            obtain ⟨l0, l1, l2⟩ := (rL.ext tb8).three
            obtain ⟨r0, r1, r2⟩ := (rR.ext tb8).three
            have qr0 := (rR.ext tb8).free 0
            have qr1 := (rR.ext tb8).free 1
            have qr2 := (rR.ext tb8).free 2
            go_wp2
            refine bodyPost_ret (v := .agg #[.int .i64 K.op, .int .i64 K.num, .slice a9 K.args.length c9]) (by simp [results, Tryd.results98, go_sem, r0, r1, r2]) rfl ?_
            rw [show E = _ from (HEQ.out.trans (by unfold twoE; rw [simple_logic (by omega), nthE_two0, nthE_two1, show decide ((10 : Int) = 10) = true from rfl, show (!true) = false from rfl, if_neg (by rw [G3.out]; simp), if_neg (by rw [G4.out]; simp), if_pos (.inr G7.out)])).trans HK.out.symm]
            exact .mk (set3_below _ _ _ (ext_trans eb tb8) (by omega)) (set3_exprU _ _ _ x9' (fun hc => by omega) (fun b hc => .inr (by omega)))
          | false =>
            have G7 := Lib.hid g7
            clear g7
            go_wp2
            refine bodyPost_ret (v := .agg #[.int .i64 10, .int .i64 0, .slice a 2 cap]) (by simp [results, Tryd.results98, go_sem, r0, r1, r2]) rfl ?_
            rw [show E = _ from (HEQ.out.trans (by unfold twoE; rw [simple_logic (by omega), nthE_two0, nthE_two1, show decide ((10 : Int) = 10) = true from rfl, show (!true) = false from rfl, if_neg (by rw [G3.out]; simp), if_neg (by rw [G4.out]; simp), if_neg (by rw [G5.out, G7.out]; simp)]))]
            exact .mk (set3_below _ _ _ (ext_trans eb tb7) (by omega)) (set3_exprU _ _ _ (xE.ext tb7) (fun hc => by have := hc.2; omega) (fun b hc => .inl hc.1))
  · obtain ⟨w2, hw2⟩ : ∃ w2, w2 = ((w0.alloc (.cells #[.int .i64 y.op, .int .i64 y.num, .slice a2 y.args.length c2] 24)).alloc (.cells #[.int .i64 x.op, .int .i64 x.num, .slice a' x.args.length c'] 24)).drew := ⟨_, rfl⟩
    rw [← hw2]
    have hb2 : Below w0.heap.size w0 w2 := by rw [hw2]; exact (ext_alloc' (ext_alloc w0 _) _).drew
    have rL : Row w2 w0.heap.size 24 [.int .i64 y.op, .int .i64 y.num, .slice a2 y.args.length c2] := by rw [hw2]; exact (row_new w0 [.int .i64 y.op, .int .i64 y.num, .slice a2 y.args.length c2] 24).alloc _
    have rF : Row w2 (w0.heap.size + 1) 24 [.int .i64 x.op, .int .i64 x.num, .slice a' x.args.length c'] := by
      rw [hw2]
      have h := row_new (w0.alloc (.cells #[.int .i64 y.op, .int .i64 y.num, .slice a2 y.args.length c2] 24)) [.int .i64 x.op, .int .i64 x.num, .slice a' x.args.length c'] 24
      rw [World.size_alloc] at h
      exact h
    clear hw2
    have eb := ext_trans eb hb2
    have rE := rE.ext hb2
    have rR := rR.ext hb2
    have xE := xE.ext hb2
    have xF := (hel.ex.mono (S' := fun b => S b ∧ b < w.heap.size) (fun b h => h)).ext hb2
    have xL := (hel2.ex.mono (S' := fun b => S b ∧ b < w.heap.size) (fun b h => h)).ext hb2
    have s2 := hb2.size
    clear x0 x1 x2 f0 f1 f2 l0 l1 l2 n1 n2 n3 n4 n5 n6 n7 q q2
    obtain ⟨x0, x1, x2⟩ := rE.three
    obtain ⟨f0, f1, f2⟩ := rF.three
    obtain ⟨l0, l1, l2⟩ := rL.three
    obtain ⟨r0, r1, r2⟩ := rR.three
    have qr0 := rR.free 0
    have qr1 := rR.free 1
    have qr2 := rR.free 2
    go_wp2_with fail
    refine (refIs_calls xF true).mono ?_
    rintro _ w3 ⟨_, rfl, hb3, rfl⟩
    have tb3 := hb3
    clear x0 x1 x2 f0 f1 f2 l0 l1 l2 r0 r1 r2 qr0 qr1 qr2
    obtain ⟨x0, x1, x2⟩ := (rE.ext tb3).three
    obtain ⟨f0, f1, f2⟩ := (rF.ext tb3).three
    obtain ⟨l0, l1, l2⟩ := (rL.ext tb3).three
    obtain ⟨r0, r1, r2⟩ := (rR.ext tb3).three
    have qr0 := (rR.ext tb3).free 0
    have qr1 := (rR.ext tb3).free 1
    have qr2 := (rR.ext tb3).free 2
    cases g3 : isE x true with
    | true =>
      have G3 := Lib.hid g3
      clear g3
      go_wp2
      refine bodyPost_ret (v := .agg #[.int .i64 y.op, .int .i64 y.num, .slice a2 y.args.length c2]) (by simp [results, Tryd.results98, go_sem, r0, r1, r2]) rfl ?_
      rw [show E = _ from (HEQ.out.trans (by unfold twoE; rw [simple_logic (by omega), nthE_two0, nthE_two1, show decide ((10 : Int) = 10) = true from rfl, show (!true) = false from rfl, if_pos G3.out]))]
      exact .mk (set3_below _ _ _ (ext_trans eb tb3) (by omega)) (set3_exprU _ _ _ (xL.ext tb3) (fun hc => by have := hc.2; omega) (fun b hc => .inl hc.1))
    | false =>
      have G3 := Lib.hid g3
      clear g3
      go_wp2_with fail
      refine (refIs_calls (xL.ext tb3) true).mono ?_
      rintro _ w4 ⟨_, rfl, hb4, rfl⟩
      have tb4 := ext_trans tb3 hb4
      clear x0 x1 x2 f0 f1 f2 l0 l1 l2 r0 r1 r2 qr0 qr1 qr2
      obtain ⟨x0, x1, x2⟩ := (rE.ext tb4).three
      obtain ⟨f0, f1, f2⟩ := (rF.ext tb4).three
      obtain ⟨l0, l1, l2⟩ := (rL.ext tb4).three
      obtain ⟨r0, r1, r2⟩ := (rR.ext tb4).three
      have qr0 := (rR.ext tb4).free 0
      have qr1 := (rR.ext tb4).free 1
      have qr2 := (rR.ext tb4).free 2
      cases g4 : isE y true with
      | true =>
        have G4 := Lib.hid g4
        clear g4
        go_wp2
        refine bodyPost_ret (v := .agg #[.int .i64 x.op, .int .i64 x.num, .slice a' x.args.length c']) (by simp [results, Tryd.results98, go_sem, r0, r1, r2]) rfl ?_
        rw [show E = _ from (HEQ.out.trans (by unfold twoE; rw [simple_logic (by omega), nthE_two0, nthE_two1, show decide ((10 : Int) = 10) = true from rfl, show (!true) = false from rfl, if_neg (by rw [G3.out]; simp), if_pos G4.out]))]
        exact .mk (set3_below _ _ _ (ext_trans eb tb4) (by omega)) (set3_exprU _ _ _ (xF.ext tb4) (fun hc => by have := hc.2; omega) (fun b hc => .inl hc.1))
      | false =>
        have G4 := Lib.hid g4
        clear g4
        go_wp2_with fail
        refine (refIs_calls (xF.ext tb4) false).mono ?_
        rintro _ w5 ⟨_, rfl, hb5, rfl⟩
        have tb5 := ext_trans tb4 hb5
        clear x0 x1 x2 f0 f1 f2 l0 l1 l2 r0 r1 r2 qr0 qr1 qr2
        obtain ⟨x0, x1, x2⟩ := (rE.ext tb5).three
        obtain ⟨f0, f1, f2⟩ := (rF.ext tb5).three
        obtain ⟨l0, l1, l2⟩ := (rL.ext tb5).three
        obtain ⟨r0, r1, r2⟩ := (rR.ext tb5).three
        have qr0 := (rR.ext tb5).free 0
        have qr1 := (rR.ext tb5).free 1
        have qr2 := (rR.ext tb5).free 2
        cases g5 : isE x false with
        | true =>
          have G5 := Lib.hid g5
          clear g5
          go_wp2_with fail
          refine (refFlag_calls _ false).mono ?_
          rintro _ w6 ⟨v9, rfl, hb6, x9⟩
          have tb6 := ext_trans tb5 hb6
          have s9 := (tb5).size
          have x9' := x9.mono (S' := fun b => w.heap.size + 2 ≤ b) (by intro b h; omega)
          obtain ⟨K, hK⟩ : ∃ K, K = flagE false := ⟨_, rfl⟩
          rw [← hK] at x9'
          have HK := Lib.hid hK
          clear hK x9
          obtain ⟨a9, c9, rfl, _⟩ := x9'.parts
          clear x0 x1 x2 f0 f1 f2 l0 l1 l2 r0 r1 r2 qr0 qr1 qr2
          obtain ⟨x0, x1, x2⟩ := (rE.ext tb6).three
          obtain ⟨f0, f1, f2⟩ := (rF.ext tb6).three
          obtain ⟨l0, l1, l2⟩ := (rL.ext tb6).three
          obtain ⟨r0, r1, r2⟩ := (rR.ext tb6).three
          have qr0 := (rR.ext tb6).free 0
          have qr1 := (rR.ext tb6).free 1
          have qr2 := (rR.ext tb6).free 2
          go_wp2
          refine bodyPost_ret (v := .agg #[.int .i64 K.op, .int .i64 K.num, .slice a9 K.args.length c9]) (by simp [results, Tryd.results98, go_sem, r0, r1, r2]) rfl ?_
          rw [show E = _ from (HEQ.out.trans (by unfold twoE; rw [simple_logic (by omega), nthE_two0, nthE_two1, show decide ((10 : Int) = 10) = true from rfl, show (!true) = false from rfl, if_neg (by rw [G3.out]; simp), if_neg (by rw [G4.out]; simp), if_pos (.inl G5.out)])).trans HK.out.symm]
          exact .mk (set3_below _ _ _ (ext_trans eb tb6) (by omega)) (set3_exprU _ _ _ x9' (fun hc => by omega) (fun b hc => .inr (by omega)))
        | false =>
          have G5 := Lib.hid g5
          clear g5
          go_wp2_with fail
          refine (refIs_calls (xL.ext tb5) false).mono ?_
          rintro _ w7 ⟨_, rfl, hb7, rfl⟩
          have tb7 := ext_trans tb5 hb7
          clear x0 x1 x2 f0 f1 f2 l0 l1 l2 r0 r1 r2 qr0 qr1 qr2
          obtain ⟨x0, x1, x2⟩ := (rE.ext tb7).three
          obtain ⟨f0, f1, f2⟩ := (rF.ext tb7).three
          obtain ⟨l0, l1, l2⟩ := (rL.ext tb7).three
          obtain ⟨r0, r1, r2⟩ := (rR.ext tb7).three
          have qr0 := (rR.ext tb7).free 0
          have qr1 := (rR.ext tb7).free 1
          have qr2 := (rR.ext tb7).free 2
          cases g7 : isE y false with
          | true =>
            have G7 := Lib.hid g7
            clear g7
            go_wp2_with fail
            refine (refFlag_calls _ false).mono ?_
            rintro _ w8 ⟨v9, rfl, hb8, x9⟩
            have tb8 := ext_trans tb7 hb8
            have s9 := (tb7).size
            have x9' := x9.mono (S' := fun b => w.heap.size + 2 ≤ b) (by intro b h; omega)
            obtain ⟨K, hK⟩ : ∃ K, K = flagE false := ⟨_, rfl⟩
            rw [← hK] at x9'
            have HK := Lib.hid hK
            clear hK x9
            obtain ⟨a9, c9, rfl, _⟩ := x9'.parts
            clear x0 x1 x2 f0 f1 f2 l0 l1 l2 r0 r1 r2 qr0 qr1 qr2
            obtain ⟨x0, x1, x2⟩ := (rE.ext tb8).three
            obtain ⟨f0, f1, f2⟩ := (rF.ext tb8).three
            obtain ⟨l0, l1, l2⟩ := (rL.ext tb8).three
            obtain ⟨r0, r1, r2⟩ := (rR.ext tb8).three
            have qr0 := (rR.ext tb8).free 0
            have qr1 := (rR.ext tb8).free 1
            have qr2 := (rR.ext tb8).free 2
            go_wp2
            refine bodyPost_ret (v := .agg #[.int .i64 K.op, .int .i64 K.num, .slice a9 K.args.length c9]) (by simp [results, Tryd.results98, go_sem, r0, r1, r2]) rfl ?_
            rw [show E = _ from (HEQ.out.trans (by unfold twoE; rw [simple_logic (by omega), nthE_two0, nthE_two1, show decide ((10 : Int) = 10) = true from rfl, show (!true) = false from rfl, if_neg (by rw [G3.out]; simp), if_neg (by rw [G4.out]; simp), if_pos (.inr G7.out)])).trans HK.out.symm]
            exact .mk (set3_below _ _ _ (ext_trans eb tb8) (by omega)) (set3_exprU _ _ _ x9' (fun hc => by omega) (fun b hc => .inr (by omega)))
          | false =>
            have G7 := Lib.hid g7
            clear g7
            go_wp2
            refine bodyPost_ret (v := .agg #[.int .i64 10, .int .i64 0, .slice a 2 cap]) (by simp [results, Tryd.results98, go_sem, r0, r1, r2]) rfl ?_
            rw [show E = _ from (HEQ.out.trans (by unfold twoE; rw [simple_logic (by omega), nthE_two0, nthE_two1, show decide ((10 : Int) = 10) = true from rfl, show (!true) = false from rfl, if_neg (by rw [G3.out]; simp), if_neg (by rw [G4.out]; simp), if_neg (by rw [G5.out, G7.out]; simp)]))]
            exact .mk (set3_below _ _ _ (ext_trans eb tb7) (by omega)) (set3_exprU _ _ _ (xE.ext tb7) (fun hc => by have := hc.2; omega) (fun b hc => .inl hc.1))

set_option maxRecDepth 100000 in
set_option maxHeartbeats 4000000 in
theorem refLogic11 {S : Nat → Prop} {w : World} {x y : Ex} {v : Value} (h : ExprV S w (twoE 11 x y) v) :
    Calls Tryd.prog 98 #[v, .bool false] w (Post w fun W' r => ExprV (fun b => S b ∨ w.heap.size ≤ b) W' (simpleE (twoE 11 x y)) r) := by
  obtain ⟨a, cap, b, off, a', c', b2, off2, a2, c2, rfl, hel, hel2⟩ := h.bound.two
  obtain ⟨E, hE0⟩ : ∃ E, E = simpleE (twoE 11 x y) := ⟨_, rfl⟩
  rw [← hE0]
  have HEQ := Lib.hid hE0
  clear hE0
  obtain ⟨w0, hw0⟩ : ∃ w0, w0 = (w.alloc (.cells #[.int .i64 11, .int .i64 0, .slice a 2 cap] 24)).alloc (.cells #[.int .i64 0, .int .i64 0, .slice none 0 0] 24) := ⟨_, rfl⟩
  have e0 : Below w.heap.size w w0 := by rw [hw0]; exact ext_alloc' (ext_alloc w _) _
  have rE : Row w0 w.heap.size 24 [.int .i64 11, .int .i64 0, .slice a 2 cap] := by rw [hw0]; exact (row_new w [.int .i64 11, .int .i64 0, .slice a 2 cap] 24).alloc _
  have rR : Row w0 (w.heap.size + 1) 24 [.int .i64 0, .int .i64 0, .slice none 0 0] := by
    have r2 := row_new (w.alloc (.cells #[.int .i64 11, .int .i64 0, .slice a 2 cap] 24)) [.int .i64 0, .int .i64 0, .slice none 0 0] 24
    rw [World.size_alloc] at r2
    rw [hw0]
    exact r2
  have hEb := h.bound
  have xE := hEb.ext e0
  have eb := e0
  have hel := hel.ext e0
  have hel2 := hel2.ext e0
  clear h
  have q := hel.idx
  have q2 := hel2.idx
  have f0 := hel.c0
  have f1 := hel.c1
  have f2 := hel.c2
  have l0 := hel2.c0
  have l1 := hel2.c1
  have l2 := hel2.c2
  have hexF := hel.ex.bound
  have hexL := hel2.ex.bound
  obtain ⟨x0, x1, x2⟩ := rE.three
  have hl := rE.lt
  have hl2 := rR.lt
  have n1 := World.new_ne w0 _ x2
  have n2 := World.new_ne w0 _ f0
  have n3 := World.new_ne w0 _ f1
  have n4 := World.new_ne w0 _ f2
  have n5 := World.new_ne w0 _ l0
  have n6 := World.new_ne w0 _ l1
  have n7 := World.new_ne w0 _ l2
  go_enter Tryd.func98, Tryd.ntmps98
  go_wp2_with fail
  rw [← hw0]
  clear hw0
  go_region_held3 (fun w' : World => w'.cell? ⟨w.heap.size, 2, none⟩ = some (.slice a 2 cap) ∧ w'.cell? ⟨b, off, none⟩ = some (.int .i64 x.op) ∧ w'.cell? ⟨b, off + 1, none⟩ = some (.int .i64 x.num) ∧ w'.cell? ⟨b, off + 2, none⟩ = some (.slice a' x.args.length c') ∧ w'.cell? ⟨b2, off2, none⟩ = some (.int .i64 y.op) ∧ w'.cell? ⟨b2, off2 + 1, none⟩ = some (.int .i64 y.num) ∧ w'.cell? ⟨b2, off2 + 2, none⟩ = some (.slice a2 y.args.length c2)) (go_keep) (fail)
  · obtain ⟨w2, hw2⟩ : ∃ w2, w2 = ((w0.alloc (.cells #[.int .i64 x.op, .int .i64 x.num, .slice a' x.args.length c'] 24)).alloc (.cells #[.int .i64 y.op, .int .i64 y.num, .slice a2 y.args.length c2] 24)).drew := ⟨_, rfl⟩
    rw [← hw2]
    have hb2 : Below w0.heap.size w0 w2 := by rw [hw2]; exact (ext_alloc' (ext_alloc w0 _) _).drew
    have rF : Row w2 w0.heap.size 24 [.int .i64 x.op, .int .i64 x.num, .slice a' x.args.length c'] := by rw [hw2]; exact (row_new w0 [.int .i64 x.op, .int .i64 x.num, .slice a' x.args.length c'] 24).alloc _
    have rL : Row w2 (w0.heap.size + 1) 24 [.int .i64 y.op, .int .i64 y.num, .slice a2 y.args.length c2] := by
      rw [hw2]
      have h := row_new (w0.alloc (.cells #[.int .i64 x.op, .int .i64 x.num, .slice a' x.args.length c'] 24)) [.int .i64 y.op, .int .i64 y.num, .slice a2 y.args.length c2] 24
      rw [World.size_alloc] at h
      exact h
    clear hw2
    have eb := ext_trans eb hb2
    have rE := rE.ext hb2
    have rR := rR.ext hb2
    have xE := xE.ext hb2
    have xF := (hel.ex.mono (S' := fun b => S b ∧ b < w.heap.size) (fun b h => h)).ext hb2
    have xL := (hel2.ex.mono (S' := fun b => S b ∧ b < w.heap.size) (fun b h => h)).ext hb2
    have s2 := hb2.size
    clear x0 x1 x2 f0 f1 f2 l0 l1 l2 n1 n2 n3 n4 n5 n6 n7 q q2
    obtain ⟨x0, x1, x2⟩ := rE.three
    obtain ⟨f0, f1, f2⟩ := rF.three
    obtain ⟨l0, l1, l2⟩ := rL.three
    obtain ⟨r0, r1, r2⟩ := rR.three
    have qr0 := rR.free 0
    have qr1 := rR.free 1
    have qr2 := rR.free 2
    go_wp2_with fail
    refine (refIs_calls xF false).mono ?_
    rintro _ w3 ⟨_, rfl, hb3, rfl⟩
    have tb3 := hb3
    clear x0 x1 x2 f0 f1 f2 l0 l1 l2 r0 r1 r2 qr0 qr1 qr2
    obtain ⟨x0, x1, x2⟩ := (rE.ext tb3).three
    obtain ⟨f0, f1, f2⟩ := (rF.ext tb3).three
    obtain ⟨l0, l1, l2⟩ := (rL.ext tb3).three
    obtain ⟨r0, r1, r2⟩ := (rR.ext tb3).three
    have qr0 := (rR.ext tb3).free 0
    have qr1 := (rR.ext tb3).free 1
    have qr2 := (rR.ext tb3).free 2
    cases g3 : isE x false with
    | true =>
      have G3 := Lib.hid g3
      clear g3
      go_wp2
      refine bodyPost_ret (v := .agg #[.int .i64 y.op, .int .i64 y.num, .slice a2 y.args.length c2]) (by simp [results, Tryd.results98, go_sem, r0, r1, r2]) rfl ?_
      rw [show E = _ from (HEQ.out.trans (by unfold twoE; rw [simple_logic (by omega), nthE_two0, nthE_two1, show decide ((11 : Int) = 10) = false from rfl, show (!false) = true from rfl, if_pos G3.out]))]
      exact .mk (set3_below _ _ _ (ext_trans eb tb3) (by omega)) (set3_exprU _ _ _ (xL.ext tb3) (fun hc => by have := hc.2; omega) (fun b hc => .inl hc.1))
    | false =>
      have G3 := Lib.hid g3
      clear g3
      go_wp2_with fail
      refine (refIs_calls (xL.ext tb3) false).mono ?_
      rintro _ w4 ⟨_, rfl, hb4, rfl⟩
      have tb4 := ext_trans tb3 hb4
      clear x0 x1 x2 f0 f1 f2 l0 l1 l2 r0 r1 r2 qr0 qr1 qr2
      obtain ⟨x0, x1, x2⟩ := (rE.ext tb4).three
      obtain ⟨f0, f1, f2⟩ := (rF.ext tb4).three
      obtain ⟨l0, l1, l2⟩ := (rL.ext tb4).three
      obtain ⟨r0, r1, r2⟩ := (rR.ext tb4).three
      have qr0 := (rR.ext tb4).free 0
      have qr1 := (rR.ext tb4).free 1
      have qr2 := (rR.ext tb4).free 2
      cases g4 : isE y false with
      | true =>
        have G4 := Lib.hid g4
        clear g4
        go_wp2
        refine bodyPost_ret (v := .agg #[.int .i64 x.op, .int .i64 x.num, .slice a' x.args.length c']) (by simp [results, Tryd.results98, go_sem, r0, r1, r2]) rfl ?_
        rw [show E = _ from (HEQ.out.trans (by unfold twoE; rw [simple_logic (by omega), nthE_two0, nthE_two1, show decide ((11 : Int) = 10) = false from rfl, show (!false) = true from rfl, if_neg (by rw [G3.out]; simp), if_pos G4.out]))]
        exact .mk (set3_below _ _ _ (ext_trans eb tb4) (by omega)) (set3_exprU _ _ _ (xF.ext tb4) (fun hc => by have := hc.2; omega) (fun b hc => .inl hc.1))
      | false =>
        have G4 := Lib.hid g4
        clear g4
        go_wp2_with fail
        refine (refIs_calls (xF.ext tb4) true).mono ?_
        rintro _ w5 ⟨_, rfl, hb5, rfl⟩
        have tb5 := ext_trans tb4 hb5
        clear x0 x1 x2 f0 f1 f2 l0 l1 l2 r0 r1 r2 qr0 qr1 qr2
        obtain ⟨x0, x1, x2⟩ := (rE.ext tb5).three
        obtain ⟨f0, f1, f2⟩ := (rF.ext tb5).three
        obtain ⟨l0, l1, l2⟩ := (rL.ext tb5).three
        obtain ⟨r0, r1, r2⟩ := (rR.ext tb5).three
        have qr0 := (rR.ext tb5).free 0
        have qr1 := (rR.ext tb5).free 1
        have qr2 := (rR.ext tb5).free 2
        cases g5 : isE x true with
        | true =>
          have G5 := Lib.hid g5
          clear g5
          go_wp2_with fail
          refine (refFlag_calls _ true).mono ?_
          rintro _ w6 ⟨v9, rfl, hb6, x9⟩
          have tb6 := ext_trans tb5 hb6
          have s9 := (tb5).size
          have x9' := x9.mono (S' := fun b => w.heap.size + 2 ≤ b) (by intro b h; omega)
          obtain ⟨K, hK⟩ : ∃ K, K = flagE true := ⟨_, rfl⟩
          rw [← hK] at x9'
          have HK := Lib.hid hK
          clear hK x9
          obtain ⟨a9, c9, rfl, _⟩ := x9'.parts
          clear x0 x1 x2 f0 f1 f2 l0 l1 l2 r0 r1 r2 qr0 qr1 qr2
          obtain ⟨x0, x1, x2⟩ := (rE.ext tb6).three
          obtain ⟨f0, f1, f2⟩ := (rF.ext tb6).three
          obtain ⟨l0, l1, l2⟩ := (rL.ext tb6).three
          obtain ⟨r0, r1, r2⟩ := (rR.ext tb6).three
          have qr0 := (rR.ext tb6).free 0
          have qr1 := (rR.ext tb6).free 1
          have qr2 := (rR.ext tb6).free 2
          go_wp2
          refine bodyPost_ret (v := .agg #[.int .i64 K.op, .int .i64 K.num, .slice a9 K.args.length c9]) (by simp [results, Tryd.results98, go_sem, r0, r1, r2]) rfl ?_
          rw [show E = _ from (HEQ.out.trans (by unfold twoE; rw [simple_logic (by omega), nthE_two0, nthE_two1, show decide ((11 : Int) = 10) = false from rfl, show (!false) = true from rfl, if_neg (by rw [G3.out]; simp), if_neg (by rw [G4.out]; simp), if_pos (.inl G5.out)])).trans HK.out.symm]
          exact .mk (set3_below _ _ _ (ext_trans eb tb6) (by omega)) (set3_exprU _ _ _ x9' (fun hc => by omega) (fun b hc => .inr (by omega)))
        | false =>
          have G5 := Lib.hid g5
          clear g5
          go_wp2_with fail
          refine (refIs_calls (xL.ext tb5) true).mono ?_
          rintro _ w7 ⟨_, rfl, hb7, rfl⟩
          have tb7 := ext_trans tb5 hb7
          clear x0 x1 x2 f0 f1 f2 l0 l1 l2 r0 r1 r2 qr0 qr1 qr2
          obtain ⟨x0, x1, x2⟩ := (rE.ext tb7).three
          obtain ⟨f0, f1, f2⟩ := (rF.ext tb7).three
          obtain ⟨l0, l1, l2⟩ := (rL.ext tb7).three
          obtain ⟨r0, r1, r2⟩ := (rR.ext tb7).three
          have qr0 := (rR.ext tb7).free 0
          have qr1 := (rR.ext tb7).free 1
          have qr2 := (rR.ext tb7).free 2
          cases g7 : isE y true with
          | true =>
            have G7 := Lib.hid g7
            clear g7
            go_wp2_with fail
            refine (refFlag_calls _ true).mono ?_
            rintro _ w8 ⟨v9, rfl, hb8, x9⟩
            have tb8 := ext_trans tb7 hb8
            have s9 := (tb7).size
            have x9' := x9.mono (S' := fun b => w.heap.size + 2 ≤ b) (by intro b h; omega)
            obtain ⟨K, hK⟩ : ∃ K, K = flagE true := ⟨_, rfl⟩
            rw [← hK] at x9'
            have HK := Lib.hid hK
            clear hK x9
            obtain ⟨a9, c9, rfl, _⟩ := x9'.parts
            clear x0 x1 x2 f0 f1 f2 l0 l1 l2 r0 r1 r2 qr0 qr1 qr2
            obtain ⟨x0, x1, x2⟩ := (rE.ext tb8).three
            obtain ⟨f0, f1, f2⟩ := (rF.ext tb8).three
            obtain ⟨l0, l1, l2⟩ := (rL.ext tb8).three
            obtain ⟨r0, r1, r2⟩ := (rR.ext tb8).three
            have qr0 := (rR.ext tb8).free 0
            have qr1 := (rR.ext tb8).free 1
            have qr2 := (rR.ext tb8).free 2
            go_wp2
            refine bodyPost_ret (v := .agg #[.int .i64 K.op, .int .i64 K.num, .slice a9 K.args.length c9]) (by simp [results, Tryd.results98, go_sem, r0, r1, r2]) rfl ?_
            rw [show E = _ from (HEQ.out.trans (by unfold twoE; rw [simple_logic (by omega), nthE_two0, nthE_two1, show decide ((11 : Int) = 10) = false from rfl, show (!false) = true from rfl, if_neg (by rw [G3.out]; simp), if_neg (by rw [G4.out]; simp), if_pos (.inr G7.out)])).trans HK.out.symm]
            exact .mk (set3_below _ _ _ (ext_trans eb tb8) (by omega)) (set3_exprU _ _ _ x9' (fun hc => by omega) (fun b hc => .inr (by omega)))
          | false =>
            have G7 := Lib.hid g7
            clear g7
            go_wp2
            refine bodyPost_ret (v := .agg #[.int .i64 11, .int .i64 0, .slice a 2 cap]) (by simp [results, Tryd.results98, go_sem, r0, r1, r2]) rfl ?_
            rw [show E = _ from (HEQ.out.trans (by unfold twoE; rw [simple_logic (by omega), nthE_two0, nthE_two1, show decide ((11 : Int) = 10) = false from rfl, show (!false) = true from rfl, if_neg (by rw [G3.out]; simp), if_neg (by rw [G4.out]; simp), if_neg (by rw [G5.out, G7.out]; simp)]))]
            exact .mk (set3_below _ _ _ (ext_trans eb tb7) (by omega)) (set3_exprU _ _ _ (xE.ext tb7) (fun hc => by have := hc.2; omega) (fun b hc => .inl hc.1))
  · obtain ⟨w2, hw2⟩ : ∃ w2, w2 = ((w0.alloc (.cells #[.int .i64 y.op, .int .i64 y.num, .slice a2 y.args.length c2] 24)).alloc (.cells #[.int .i64 x.op, .int .i64 x.num, .slice a' x.args.length c'] 24)).drew := ⟨_, rfl⟩
    rw [← hw2]
    have hb2 : Below w0.heap.size w0 w2 := by rw [hw2]; exact (ext_alloc' (ext_alloc w0 _) _).drew
    have rL : Row w2 w0.heap.size 24 [.int .i64 y.op, .int .i64 y.num, .slice a2 y.args.length c2] := by rw [hw2]; exact (row_new w0 [.int .i64 y.op, .int .i64 y.num, .slice a2 y.args.length c2] 24).alloc _
    have rF : Row w2 (w0.heap.size + 1) 24 [.int .i64 x.op, .int .i64 x.num, .slice a' x.args.length c'] := by
      rw [hw2]
      have h := row_new (w0.alloc (.cells #[.int .i64 y.op, .int .i64 y.num, .slice a2 y.args.length c2] 24)) [.int .i64 x.op, .int .i64 x.num, .slice a' x.args.length c'] 24
      rw [World.size_alloc] at h
      exact h
    clear hw2
    have eb := ext_trans eb hb2
    have rE := rE.ext hb2
    have rR := rR.ext hb2
    have xE := xE.ext hb2
    have xF := (hel.ex.mono (S' := fun b => S b ∧ b < w.heap.size) (fun b h => h)).ext hb2
    have xL := (hel2.ex.mono (S' := fun b => S b ∧ b < w.heap.size) (fun b h => h)).ext hb2
    have s2 := hb2.size
    clear x0 x1 x2 f0 f1 f2 l0 l1 l2 n1 n2 n3 n4 n5 n6 n7 q q2
    obtain ⟨x0, x1, x2⟩ := rE.three
    obtain ⟨f0, f1, f2⟩ := rF.three
    obtain ⟨l0, l1, l2⟩ := rL.three
    obtain ⟨r0, r1, r2⟩ := rR.three
    have qr0 := rR.free 0
    have qr1 := rR.free 1
    have qr2 := rR.free 2
    go_wp2_with fail
    refine (refIs_calls xF false).mono ?_
    rintro _ w3 ⟨_, rfl, hb3, rfl⟩
    have tb3 := hb3
    clear x0 x1 x2 f0 f1 f2 l0 l1 l2 r0 r1 r2 qr0 qr1 qr2
    obtain ⟨x0, x1, x2⟩ := (rE.ext tb3).three
    obtain ⟨f0, f1, f2⟩ := (rF.ext tb3).three
    obtain ⟨l0, l1, l2⟩ := (rL.ext tb3).three
    obtain ⟨r0, r1, r2⟩ := (rR.ext tb3).three
    have qr0 := (rR.ext tb3).free 0
    have qr1 := (rR.ext tb3).free 1
    have qr2 := (rR.ext tb3).free 2
    cases g3 : isE x false with
    | true =>
      have G3 := Lib.hid g3
      clear g3
      go_wp2
      refine bodyPost_ret (v := .agg #[.int .i64 y.op, .int .i64 y.num, .slice a2 y.args.length c2]) (by simp [results, Tryd.results98, go_sem, r0, r1, r2]) rfl ?_
      rw [show E = _ from (HEQ.out.trans (by unfold twoE; rw [simple_logic (by omega), nthE_two0, nthE_two1, show decide ((11 : Int) = 10) = false from rfl, show (!false) = true from rfl, if_pos G3.out]))]
      exact .mk (set3_below _ _ _ (ext_trans eb tb3) (by omega)) (set3_exprU _ _ _ (xL.ext tb3) (fun hc => by have := hc.2; omega) (fun b hc => .inl hc.1))
    | false =>
      have G3 := Lib.hid g3
      clear g3
      go_wp2_with fail
      refine (refIs_calls (xL.ext tb3) false).mono ?_
      rintro _ w4 ⟨_, rfl, hb4, rfl⟩
      have tb4 := ext_trans tb3 hb4
      clear x0 x1 x2 f0 f1 f2 l0 l1 l2 r0 r1 r2 qr0 qr1 qr2
      obtain ⟨x0, x1, x2⟩ := (rE.ext tb4).three
      obtain ⟨f0, f1, f2⟩ := (rF.ext tb4).three
      obtain ⟨l0, l1, l2⟩ := (rL.ext tb4).three
      obtain ⟨r0, r1, r2⟩ := (rR.ext tb4).three
      have qr0 := (rR.ext tb4).free 0
      have qr1 := (rR.ext tb4).free 1
      have qr2 := (rR.ext tb4).free 2
      cases g4 : isE y false with
      | true =>
        have G4 := Lib.hid g4
        clear g4
        go_wp2
        refine bodyPost_ret (v := .agg #[.int .i64 x.op, .int .i64 x.num, .slice a' x.args.length c']) (by simp [results, Tryd.results98, go_sem, r0, r1, r2]) rfl ?_
        rw [show E = _ from (HEQ.out.trans (by unfold twoE; rw [simple_logic (by omega), nthE_two0, nthE_two1, show decide ((11 : Int) = 10) = false from rfl, show (!false) = true from rfl, if_neg (by rw [G3.out]; simp), if_pos G4.out]))]
        exact .mk (set3_below _ _ _ (ext_trans eb tb4) (by omega)) (set3_exprU _ _ _ (xF.ext tb4) (fun hc => by have := hc.2; omega) (fun b hc => .inl hc.1))
      | false =>
        have G4 := Lib.hid g4
        clear g4
        go_wp2_with fail
        refine (refIs_calls (xF.ext tb4) true).mono ?_
        rintro _ w5 ⟨_, rfl, hb5, rfl⟩
        have tb5 := ext_trans tb4 hb5
        clear x0 x1 x2 f0 f1 f2 l0 l1 l2 r0 r1 r2 qr0 qr1 qr2
        obtain ⟨x0, x1, x2⟩ := (rE.ext tb5).three
        obtain ⟨f0, f1, f2⟩ := (rF.ext tb5).three
        obtain ⟨l0, l1, l2⟩ := (rL.ext tb5).three
        obtain ⟨r0, r1, r2⟩ := (rR.ext tb5).three
        have qr0 := (rR.ext tb5).free 0
        have qr1 := (rR.ext tb5).free 1
        have qr2 := (rR.ext tb5).free 2
        cases g5 : isE x true with
        | true =>
          have G5 := Lib.hid g5
          clear g5
          go_wp2_with fail
          refine (refFlag_calls _ true).mono ?_
          rintro _ w6 ⟨v9, rfl, hb6, x9⟩
          have tb6 := ext_trans tb5 hb6
          have s9 := (tb5).size
          have x9' := x9.mono (S' := fun b => w.heap.size + 2 ≤ b) (by intro b h; omega)
          obtain ⟨K, hK⟩ : ∃ K, K = flagE true := ⟨_, rfl⟩
          rw [← hK] at x9'
          have HK := Lib.hid hK
          clear hK x9
          obtain ⟨a9, c9, rfl, _⟩ := x9'.parts
          clear x0 x1 x2 f0 f1 f2 l0 l1 l2 r0 r1 r2 qr0 qr1 qr2
          obtain ⟨x0, x1, x2⟩ := (rE.ext tb6).three
          obtain ⟨f0, f1, f2⟩ := (rF.ext tb6).three
          obtain ⟨l0, l1, l2⟩ := (rL.ext tb6).three
          obtain ⟨r0, r1, r2⟩ := (rR.ext tb6).three
          have qr0 := (rR.ext tb6).free 0
          have qr1 := (rR.ext tb6).free 1
          have qr2 := (rR.ext tb6).free 2
          go_wp2
          refine bodyPost_ret (v := .agg #[.int .i64 K.op, .int .i64 K.num, .slice a9 K.args.length c9]) (by simp [results, Tryd.results98, go_sem, r0, r1, r2]) rfl ?_
          rw [show E = _ from (HEQ.out.trans (by unfold twoE; rw [simple_logic (by omega), nthE_two0, nthE_two1, show decide ((11 : Int) = 10) = false from rfl, show (!false) = true from rfl, if_neg (by rw [G3.out]; simp), if_neg (by rw [G4.out]; simp), if_pos (.inl G5.out)])).trans HK.out.symm]
          exact .mk (set3_below _ _ _ (ext_trans eb tb6) (by omega)) (set3_exprU _ _ _ x9' (fun hc => by omega) (fun b hc => .inr (by omega)))
        | false =>
          have G5 := Lib.hid g5
          clear g5
          go_wp2_with fail
          refine (refIs_calls (xL.ext tb5) true).mono ?_
          rintro _ w7 ⟨_, rfl, hb7, rfl⟩
          have tb7 := ext_trans tb5 hb7
          clear x0 x1 x2 f0 f1 f2 l0 l1 l2 r0 r1 r2 qr0 qr1 qr2
          obtain ⟨x0, x1, x2⟩ := (rE.ext tb7).three
          obtain ⟨f0, f1, f2⟩ := (rF.ext tb7).three
          obtain ⟨l0, l1, l2⟩ := (rL.ext tb7).three
          obtain ⟨r0, r1, r2⟩ := (rR.ext tb7).three
          have qr0 := (rR.ext tb7).free 0
          have qr1 := (rR.ext tb7).free 1
          have qr2 := (rR.ext tb7).free 2
          cases g7 : isE y true with
          | true =>
            have G7 := Lib.hid g7
            clear g7
            go_wp2_with fail
            refine (refFlag_calls _ true).mono ?_
            rintro _ w8 ⟨v9, rfl, hb8, x9⟩
            have tb8 := ext_trans tb7 hb8
            have s9 := (tb7).size
            have x9' := x9.mono (S' := fun b => w.heap.size + 2 ≤ b) (by intro b h; omega)
            obtain ⟨K, hK⟩ : ∃ K, K = flagE true := ⟨_, rfl⟩
            rw [← hK] at x9'
            have HK := Lib.hid hK
            clear hK x9
            obtain ⟨a9, c9, rfl, _⟩ := x9'.parts
            clear x0 x1 x2 f0 f1 f2 l0 l1 l2 r0 r1 r2 qr0 qr1 qr2
            obtain ⟨x0, x1, x2⟩ := (rE.ext tb8).three
            obtain ⟨f0, f1, f2⟩ := (rF.ext tb8).three
            obtain ⟨l0, l1, l2⟩ := (rL.ext tb8).three
            obtain ⟨r0, r1, r2⟩ := (rR.ext tb8).three
            have qr0 := (rR.ext tb8).free 0
            have qr1 := (rR.ext tb8).free 1
            have qr2 := (rR.ext tb8).free 2
            go_wp2
            refine bodyPost_ret (v := .agg #[.int .i64 K.op, .int .i64 K.num, .slice a9 K.args.length c9]) (by simp [results, Tryd.results98, go_sem, r0, r1, r2]) rfl ?_
            rw [show E = _ from (HEQ.out.trans (by unfold twoE; rw [simple_logic (by omega), nthE_two0, nthE_two1, show decide ((11 : Int) = 10) = false from rfl, show (!false) = true from rfl, if_neg (by rw [G3.out]; simp), if_neg (by rw [G4.out]; simp), if_pos (.inr G7.out)])).trans HK.out.symm]
            exact .mk (set3_below _ _ _ (ext_trans eb tb8) (by omega)) (set3_exprU _ _ _ x9' (fun hc => by omega) (fun b hc => .inr (by omega)))
          | false =>
            have G7 := Lib.hid g7
            clear g7
            go_wp2
            refine bodyPost_ret (v := .agg #[.int .i64 11, .int .i64 0, .slice a 2 cap]) (by simp [results, Tryd.results98, go_sem, r0, r1, r2]) rfl ?_
            rw [show E = _ from (HEQ.out.trans (by unfold twoE; rw [simple_logic (by omega), nthE_two0, nthE_two1, show decide ((11 : Int) = 10) = false from rfl, show (!false) = true from rfl, if_neg (by rw [G3.out]; simp), if_neg (by rw [G4.out]; simp), if_neg (by rw [G5.out, G7.out]; simp)]))]
            exact .mk (set3_below _ _ _ (ext_trans eb tb7) (by omega)) (set3_exprU _ _ _ (xE.ext tb7) (fun hc => by have := hc.2; omega) (fun b hc => .inl hc.1))

end Go.Proofs.YtifkkajgcekafaaDoor
