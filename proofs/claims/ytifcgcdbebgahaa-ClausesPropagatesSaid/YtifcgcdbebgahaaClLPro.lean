/- The walk of ClausesPropagates. Printed by law41.py. -/
import Derived.Test.YtifcgcdbebgahaaClLaw0
namespace Go.Proofs.Ytifcgcdbebgahaa
set_option linter.unusedVariables false
open Go.RowKit
attribute [local go_sem ↓] Go.wp_at_zero Go.wp_at_succ

set_option maxRecDepth 100000 in
set_option maxHeartbeats 8000000 in
theorem walkClausesPropagates {w : World} {vm : Value} {m : Mx} (hm : MatV TT w vm m) {vx : Value} {x : List Int} (hx : Ints TT w vx x) :
    Calls Try.prog 4 #[vm, vx] w (Post w fun _ r => r = .bool true) := by
  obtain ⟨cols, ll⟩ := m
  obtain ⟨rm, rfl, la⟩ := hm
  obtain ⟨aa, acap, rfl, _⟩ := la.form
  dsimp only at la ⊢
  have hm : MatV TT w (.agg #[.int .i64 cols, .slice aa ll.length acap]) ⟨cols, ll⟩ := ⟨_, rfl, la⟩
  clear la
  obtain ⟨ax, cx, rfl, _⟩ := hx.form
  have HB := Below.refl w.heap.size w
  go_enter Try.func4, Try.ntmps4
  go_wp2_with fail
  refine (few_calls (S := TT) (S' := TT) (ls := [x]) (hm.ext (by (repeat (first | exact Below.refl _ _ | refine ext_alloc' ?_ _)))) ?_).mono ?_
  · refine lits_at (e := 25) (ll := [x]) (vs := [.slice ax x.length cx]) ?_ (by simp) (show Ints TT _ _ _ ∧ True from ⟨hx.ext (by (repeat (first | exact Below.refl _ _ | refine ext_alloc' ?_ _))), trivial⟩)
    repeat (first | exact row_at _ _ _ _ (by simp) | refine Row.alloc ?_ _)
  rintro _ w1 ⟨_, rfl, hb, rfl⟩
  have hYY := ext_trans (by (repeat (first | exact Below.refl _ _ | refine ext_alloc' ?_ _)) : Below w.heap.size w _) hb
  have R1 : Row w1 (w.heap.size) 24 [.int .i64 cols, .slice aa ll.length acap] := Row.ext (by repeat (first | exact row_at _ _ _ _ (by simp) | refine Row.alloc ?_ _)) hb
  replace hm := hm.ext hYY
  replace hx := hx.ext hYY
  replace HB := ext_trans HB hYY
  clear hYY hb
  cases hf : fewL ⟨cols, ll⟩ [x] with
  | false =>
    clear hf
    obtain ⟨R1q0, R1q1⟩ := R1.two
    have R1l := R1.lt
    go_wp2_with fail
    refine (awake_calls _).mono ?_
    rintro _ w2 ⟨_, rfl, hb, rfl⟩
    have hYY := ext_trans (by (repeat (first | exact Below.refl _ _ | refine ext_alloc' ?_ _)) : Below w1.heap.size w1 _) hb
    replace hm := hm.ext hYY
    replace hx := hx.ext hYY
    replace R1 := R1.ext hYY
    replace HB := ext_trans HB hYY
    clear R1q0 R1q1 R1l hYY hb
    go_wp2
    go_ret
    exact .mk HB rfl
  | true =>
  obtain ⟨hfl, hfc⟩ := fewL_true hf
  have hxl : x.length ≤ 40 := hfl x (by simp)
  have HFC := Lib.hid hfc
  clear hf hfl hfc
  obtain ⟨l, r, i, e, hP⟩ : ∃ l r i e, propS ⟨cols, ll⟩ x = (((l, r), i), e) := ⟨_, _, _, _, rfl⟩
  have HP := Lib.hid hP
  clear hP
  obtain ⟨R1q0, R1q1⟩ := R1.two
  have R1l := R1.lt
  go_wp2_with fail
  refine (prop_lit (n := l.length) (k := r.length) (hm.ext (by (repeat (first | exact Below.refl _ _ | refine ext_alloc' ?_ _)))) (hx.ext (by (repeat (first | exact Below.refl _ _ | refine ext_alloc' ?_ _)))) (by omega) HP.out rfl rfl).mono ?_
  rintro _ w2 ⟨_, rfl, hb, a1, k1, b1, d1, rfl, h1, g1⟩
  have hYY := ext_trans (by (repeat (first | exact Below.refl _ _ | refine ext_alloc' ?_ _)) : Below w1.heap.size w1 _) hb
  replace hm := hm.ext hYY
  replace hx := hx.ext hYY
  replace R1 := R1.ext hYY
  replace HB := ext_trans HB hYY
  clear R1q0 R1q1 R1l hYY hb
  obtain ⟨R1q0, R1q1⟩ := R1.two
  have R1l := R1.lt
  go_wp2_with fail
  refine (rprop_lit (n := l.length) (k := r.length) (hm.ext (by (repeat (first | exact Below.refl _ _ | refine ext_alloc' ?_ _)))) (hx.ext (by (repeat (first | exact Below.refl _ _ | refine ext_alloc' ?_ _)))) (by omega) HP.out rfl rfl).mono ?_
  rintro _ w3 ⟨_, rfl, hb, a2, k2, b2, d2, rfl, h2, g2⟩
  have hYY := ext_trans (by (repeat (first | exact Below.refl _ _ | refine ext_alloc' ?_ _)) : Below w2.heap.size w2 _) hb
  replace hm := hm.ext hYY
  replace hx := hx.ext hYY
  replace h1 := h1.ext hYY
  replace g1 := g1.ext hYY
  replace R1 := R1.ext hYY
  replace HB := ext_trans HB hYY
  clear R1q0 R1q1 R1l hYY hb
  obtain ⟨R1q0, R1q1⟩ := R1.two
  have R1l := R1.lt
  go_wp2_with fail
  refine (awake_calls _).mono ?_
  rintro _ w4 ⟨_, rfl, hb, rfl⟩
  have hYY := ext_trans (by (repeat (first | exact Below.refl _ _ | refine ext_alloc' ?_ _)) : Below w3.heap.size w3 _) hb
  replace hm := hm.ext hYY
  replace hx := hx.ext hYY
  replace h1 := h1.ext hYY
  replace g1 := g1.ext hYY
  replace h2 := h2.ext hYY
  replace g2 := g2.ext hYY
  replace R1 := R1.ext hYY
  replace HB := ext_trans HB hYY
  clear R1q0 R1q1 R1l hYY hb
  obtain ⟨R1q0, R1q1⟩ := R1.two
  have R1l := R1.lt
  go_wp2_with fail
  refine (equal_lit (h1.ext (by (repeat (first | exact Below.refl _ _ | refine ext_alloc' ?_ _)))) (h2.ext (by (repeat (first | exact Below.refl _ _ | refine ext_alloc' ?_ _)))) rfl).mono ?_
  rintro _ w5 ⟨_, rfl, hb, rfl⟩
  have hYY := ext_trans (by (repeat (first | exact Below.refl _ _ | refine ext_alloc' ?_ _)) : Below w4.heap.size w4 _) hb
  replace hm := hm.ext hYY
  replace hx := hx.ext hYY
  replace h1 := h1.ext hYY
  replace g1 := g1.ext hYY
  replace h2 := h2.ext hYY
  replace g2 := g2.ext hYY
  replace R1 := R1.ext hYY
  replace HB := ext_trans HB hYY
  clear R1q0 R1q1 R1l hYY hb
  obtain ⟨R1q0, R1q1⟩ := R1.two
  have R1l := R1.lt
  go_wp2_with fail
  refine (equal_lit (g1.ext (by (repeat (first | exact Below.refl _ _ | refine ext_alloc' ?_ _)))) (g2.ext (by (repeat (first | exact Below.refl _ _ | refine ext_alloc' ?_ _)))) rfl).mono ?_
  rintro _ w6 ⟨_, rfl, hb, rfl⟩
  have hYY := ext_trans (by (repeat (first | exact Below.refl _ _ | refine ext_alloc' ?_ _)) : Below w5.heap.size w5 _) hb
  replace hm := hm.ext hYY
  replace hx := hx.ext hYY
  replace h1 := h1.ext hYY
  replace g1 := g1.ext hYY
  replace h2 := h2.ext hYY
  replace g2 := g2.ext hYY
  replace R1 := R1.ext hYY
  replace HB := ext_trans HB hYY
  clear R1q0 R1q1 R1l hYY hb
  go_wp2
  go_ret
  exact .mk HB rfl
end Go.Proofs.Ytifcgcdbebgahaa
