/- The walk of ClausesEvaluates. Printed by law41.py. -/
import Derived.Test.YtifcgcdbebgahaaClLaw0
namespace Go.Proofs.Ytifcgcdbebgahaa
set_option linter.unusedVariables false
open Go.RowKit
attribute [local go_sem ↓] Go.wp_at_zero Go.wp_at_succ

set_option maxRecDepth 100000 in
set_option maxHeartbeats 8000000 in
theorem walkClausesEvaluates {w : World} {vm : Value} {m : Mx} (hm : MatV TT w vm m) {vx : Value} {x : List Int} (hx : Ints TT w vx x) {vy : Value} {y : List Int} (hy : Ints TT w vy y) :
    Calls Try.prog 3 #[vm, vx, vy] w (Post w fun _ r => r = .bool true) := by
  obtain ⟨cols, ll⟩ := m
  obtain ⟨rm, rfl, la⟩ := hm
  obtain ⟨aa, acap, rfl, _⟩ := la.form
  dsimp only at la ⊢
  have hm : MatV TT w (.agg #[.int .i64 cols, .slice aa ll.length acap]) ⟨cols, ll⟩ := ⟨_, rfl, la⟩
  clear la
  obtain ⟨ax, cx, rfl, _⟩ := hx.form
  obtain ⟨ay, cy, rfl, _⟩ := hy.form
  have HB := Below.refl w.heap.size w
  go_enter Try.func3, Try.ntmps3
  go_wp2_with fail
  refine (few_calls (S := TT) (S' := TT) (ls := [x, y]) (hm.ext (by (repeat (first | exact Below.refl _ _ | refine ext_alloc' ?_ _)))) ?_).mono ?_
  · refine lits_at (e := 25) (ll := [x, y]) (vs := [.slice ax x.length cx, .slice ay y.length cy]) ?_ (by simp) (show Ints TT _ _ _ ∧ Ints TT _ _ _ ∧ True from ⟨hx.ext (by (repeat (first | exact Below.refl _ _ | refine ext_alloc' ?_ _))), hy.ext (by (repeat (first | exact Below.refl _ _ | refine ext_alloc' ?_ _))), trivial⟩)
    repeat (first | exact row_at _ _ _ _ (by simp) | refine Row.alloc ?_ _)
  rintro _ w1 ⟨_, rfl, hb, rfl⟩
  have hYY := ext_trans (by (repeat (first | exact Below.refl _ _ | refine ext_alloc' ?_ _)) : Below w.heap.size w _) hb
  have R1 : Row w1 (w.heap.size) 24 [.int .i64 cols, .slice aa ll.length acap] := Row.ext (by repeat (first | exact row_at _ _ _ _ (by simp) | refine Row.alloc ?_ _)) hb
  replace hm := hm.ext hYY
  replace hx := hx.ext hYY
  replace hy := hy.ext hYY
  replace HB := ext_trans HB hYY
  clear hYY hb
  cases hf : fewL ⟨cols, ll⟩ [x, y] with
  | false =>
    clear hf
    obtain ⟨R1q0, R1q1⟩ := R1.two
    have R1l := R1.lt
    go_wp2_with fail
    refine (awake_calls _).mono ?_
    rintro _ w2 ⟨_, rfl, hb, rfl⟩
    have hYY := ext_trans (by (repeat (first | exact Below.refl _ _ | refine ext_alloc' ?_ _)) : Below w1.heap.size w1 _) hb
    replace hm := hm.ext hYY
    replace hx := hx.ext hYY
    replace hy := hy.ext hYY
    replace R1 := R1.ext hYY
    replace HB := ext_trans HB hYY
    clear R1q0 R1q1 R1l hYY hb
    go_wp2
    go_ret
    exact .mk HB rfl
  | true =>
  obtain ⟨hfl, hfc⟩ := fewL_true hf
  have hxl : x.length ≤ 40 := hfl x (by simp)
  have hyl : y.length ≤ 40 := hfl y (by simp)
  have HFC := Lib.hid hfc
  clear hf hfl hfc
  obtain ⟨i, q, e, hHE⟩ : ∃ i q e, evalS ⟨cols, ll⟩ x = (i, q, e) := ⟨_, _, _, rfl⟩
  have HE := Lib.hid hHE
  clear hHE
  obtain ⟨⟨c2, l2⟩, e2, hA⟩ : ∃ m2 e2, assignS ⟨cols, ll⟩ y = (m2, e2) := ⟨_, _, rfl⟩
  have HA := Lib.hid hA
  clear hA
  obtain ⟨R1q0, R1q1⟩ := R1.two
  have R1l := R1.lt
  go_wp2_with fail
  refine (eval_lit (i := i) (q := q) (e := e) (hm.ext (by (repeat (first | exact Below.refl _ _ | refine ext_alloc' ?_ _)))) (hx.ext (by (repeat (first | exact Below.refl _ _ | refine ext_alloc' ?_ _)))) HE.out).mono ?_
  rintro _ w2 ⟨_, rfl, hb, rfl⟩
  have hYY := ext_trans (by (repeat (first | exact Below.refl _ _ | refine ext_alloc' ?_ _)) : Below w1.heap.size w1 _) hb
  replace hm := hm.ext hYY
  replace hx := hx.ext hYY
  replace hy := hy.ext hYY
  replace R1 := R1.ext hYY
  replace HB := ext_trans HB hYY
  clear R1q0 R1q1 R1l hYY hb
  obtain ⟨R1q0, R1q1⟩ := R1.two
  have R1l := R1.lt
  go_wp2_with fail
  refine (reval_lit (i := i) (q := q) (e := e) (hm.ext (by (repeat (first | exact Below.refl _ _ | refine ext_alloc' ?_ _)))) (hx.ext (by (repeat (first | exact Below.refl _ _ | refine ext_alloc' ?_ _)))) HE.out).mono ?_
  rintro _ w3 ⟨_, rfl, hb, rfl⟩
  have hYY := ext_trans (by (repeat (first | exact Below.refl _ _ | refine ext_alloc' ?_ _)) : Below w2.heap.size w2 _) hb
  replace hm := hm.ext hYY
  replace hx := hx.ext hYY
  replace hy := hy.ext hYY
  replace R1 := R1.ext hYY
  replace HB := ext_trans HB hYY
  clear R1q0 R1q1 R1l hYY hb
  obtain ⟨R1q0, R1q1⟩ := R1.two
  have R1l := R1.lt
  go_wp2_with fail
  refine (asg_lit (c := c2) (ll := l2) (e := e2) (n := l2.length) (hm.ext (by (repeat (first | exact Below.refl _ _ | refine ext_alloc' ?_ _)))) (hy.ext (by (repeat (first | exact Below.refl _ _ | refine ext_alloc' ?_ _)))) (by omega) HA.out rfl).mono ?_
  rintro _ w4 ⟨_, rfl, hb, a1, k1, rfl, h1⟩
  have hYY := ext_trans (by (repeat (first | exact Below.refl _ _ | refine ext_alloc' ?_ _)) : Below w3.heap.size w3 _) hb
  replace hm := hm.ext hYY
  replace hx := hx.ext hYY
  replace hy := hy.ext hYY
  replace R1 := R1.ext hYY
  replace HB := ext_trans HB hYY
  clear R1q0 R1q1 R1l hYY hb
  obtain ⟨R1q0, R1q1⟩ := R1.two
  have R1l := R1.lt
  go_wp2_with fail
  refine (rasg_lit (c := c2) (ll := l2) (e := e2) (n := l2.length) (hm.ext (by (repeat (first | exact Below.refl _ _ | refine ext_alloc' ?_ _)))) (hy.ext (by (repeat (first | exact Below.refl _ _ | refine ext_alloc' ?_ _)))) HA.out rfl).mono ?_
  rintro _ w5 ⟨_, rfl, hb, a2, k2, rfl, h2⟩
  have hYY := ext_trans (by (repeat (first | exact Below.refl _ _ | refine ext_alloc' ?_ _)) : Below w4.heap.size w4 _) hb
  have R2 : Row w5 (w4.heap.size) 24 [.int .i64 c2, .slice a1 l2.length k1] := Row.ext (by repeat (first | exact row_at _ _ _ _ (by simp) | refine Row.alloc ?_ _)) hb
  replace hm := hm.ext hYY
  replace hx := hx.ext hYY
  replace hy := hy.ext hYY
  replace h1 := h1.ext hYY
  replace R1 := R1.ext hYY
  replace HB := ext_trans HB hYY
  clear R1q0 R1q1 R1l hYY hb
  obtain ⟨R1q0, R1q1⟩ := R1.two
  have R1l := R1.lt
  obtain ⟨R2q0, R2q1⟩ := R2.two
  have R2l := R2.lt
  go_wp2_with fail
  refine (awake_calls _).mono ?_
  rintro _ w6 ⟨_, rfl, hb, rfl⟩
  have hYY := ext_trans (by (repeat (first | exact Below.refl _ _ | refine ext_alloc' ?_ _)) : Below w5.heap.size w5 _) hb
  have R3 : Row w6 (w5.heap.size) 24 [.int .i64 c2, .slice a2 l2.length k2] := Row.ext (by repeat (first | exact row_at _ _ _ _ (by simp) | refine Row.alloc ?_ _)) hb
  replace hm := hm.ext hYY
  replace hx := hx.ext hYY
  replace hy := hy.ext hYY
  replace h1 := h1.ext hYY
  replace h2 := h2.ext hYY
  replace R1 := R1.ext hYY
  replace R2 := R2.ext hYY
  replace HB := ext_trans HB hYY
  clear R1q0 R1q1 R1l R2q0 R2q1 R2l hYY hb
  obtain ⟨R1q0, R1q1⟩ := R1.two
  have R1l := R1.lt
  obtain ⟨R2q0, R2q1⟩ := R2.two
  have R2l := R2.lt
  obtain ⟨R3q0, R3q1⟩ := R3.two
  have R3l := R3.lt
  go_wp2_with fail
  refine (same_lit (h1.ext (by (repeat (first | exact Below.refl _ _ | refine ext_alloc' ?_ _)))) (h2.ext (by (repeat (first | exact Below.refl _ _ | refine ext_alloc' ?_ _)))) rfl).mono ?_
  rintro _ w7 ⟨_, rfl, hb, rfl⟩
  have hYY := ext_trans (by (repeat (first | exact Below.refl _ _ | refine ext_alloc' ?_ _)) : Below w6.heap.size w6 _) hb
  replace hm := hm.ext hYY
  replace hx := hx.ext hYY
  replace hy := hy.ext hYY
  replace h1 := h1.ext hYY
  replace h2 := h2.ext hYY
  replace R1 := R1.ext hYY
  replace R2 := R2.ext hYY
  replace R3 := R3.ext hYY
  replace HB := ext_trans HB hYY
  clear R1q0 R1q1 R1l R2q0 R2q1 R2l R3q0 R3q1 R3l hYY hb
  go_wp2
  go_ret
  exact .mk HB rfl
end Go.Proofs.Ytifcgcdbebgahaa
