/- The walk of ClausesResolves. Printed by law41.py. -/
import Derived.Test.YtifcgcdbebgahaaClLaw0
namespace Go.Proofs.Ytifcgcdbebgahaa
set_option linter.unusedVariables false
open Go.RowKit
attribute [local go_sem ↓] Go.wp_at_zero Go.wp_at_succ

set_option maxRecDepth 100000 in
set_option maxHeartbeats 8000000 in
theorem walkClausesResolves {w : World} {vx : Value} {x : List Int} (hx : Ints TT w vx x) {vy : Value} {y : List Int} (hy : Ints TT w vy y) {v : Int} (hv : WF v) :
    Calls Try.prog 7 #[vx, vy, .int .i64 v] w (Post w fun _ r => r = .bool true) := by
  obtain ⟨ax, cx, rfl, _⟩ := hx.form
  obtain ⟨ay, cy, rfl, _⟩ := hy.form
  have HB := Below.refl w.heap.size w
  go_enter Try.func7, Try.ntmps7
  by_cases h1 : 60 < x.length
  ·
    have e1 : decide (60 < x.length) = true := decide_eq_true h1
    go_wp2_with fail
    refine (awake_calls _).mono ?_
    rintro _ w1 ⟨_, rfl, hb, rfl⟩
    have hYY := ext_trans (by (repeat (first | exact Below.refl _ _ | refine ext_alloc' ?_ _)) : Below w.heap.size w _) hb
    replace hx := hx.ext hYY
    replace hy := hy.ext hYY
    replace HB := ext_trans HB hYY
    clear hYY hb
    go_wp2
    go_ret
    exact .mk HB rfl
  have e1 : decide (60 < x.length) = false := decide_eq_false h1
  by_cases h2 : 60 < y.length
  ·
    have e2 : decide (60 < y.length) = true := decide_eq_true h2
    go_wp2_with fail
    refine (awake_calls _).mono ?_
    rintro _ w1 ⟨_, rfl, hb, rfl⟩
    have hYY := ext_trans (by (repeat (first | exact Below.refl _ _ | refine ext_alloc' ?_ _)) : Below w.heap.size w _) hb
    replace hx := hx.ext hYY
    replace hy := hy.ext hYY
    replace HB := ext_trans HB hYY
    clear hYY hb
    go_wp2
    go_ret
    exact .mk HB rfl
  have e2 : decide (60 < y.length) = false := decide_eq_false h2
  obtain ⟨l, e, hR⟩ : ∃ l e, resolveS x y v = (l, e) := ⟨_, _, rfl⟩
  have HR := Lib.hid hR
  clear hR
  go_wp2_with fail
  refine (res_lit (l := l) (e := e) (n := l.length) (hx.ext (by (repeat (first | exact Below.refl _ _ | refine ext_alloc' ?_ _)))) (hy.ext (by (repeat (first | exact Below.refl _ _ | refine ext_alloc' ?_ _)))) hv HR.out rfl).mono ?_
  rintro _ w1 ⟨_, rfl, hb, a1, k1, rfl, g1⟩
  have hYY := ext_trans (by (repeat (first | exact Below.refl _ _ | refine ext_alloc' ?_ _)) : Below w.heap.size w _) hb
  replace hx := hx.ext hYY
  replace hy := hy.ext hYY
  replace HB := ext_trans HB hYY
  clear hYY hb
  go_wp2_with fail
  refine (rres_lit (l := l) (e := e) (n := l.length) (hx.ext (by (repeat (first | exact Below.refl _ _ | refine ext_alloc' ?_ _)))) (hy.ext (by (repeat (first | exact Below.refl _ _ | refine ext_alloc' ?_ _)))) HR.out rfl).mono ?_
  rintro _ w2 ⟨_, rfl, hb, a2, k2, rfl, g2⟩
  have hYY := ext_trans (by (repeat (first | exact Below.refl _ _ | refine ext_alloc' ?_ _)) : Below w1.heap.size w1 _) hb
  replace hx := hx.ext hYY
  replace hy := hy.ext hYY
  replace g1 := g1.ext hYY
  replace HB := ext_trans HB hYY
  clear hYY hb
  go_wp2_with fail
  refine (awake_calls _).mono ?_
  rintro _ w3 ⟨_, rfl, hb, rfl⟩
  have hYY := ext_trans (by (repeat (first | exact Below.refl _ _ | refine ext_alloc' ?_ _)) : Below w2.heap.size w2 _) hb
  replace hx := hx.ext hYY
  replace hy := hy.ext hYY
  replace g1 := g1.ext hYY
  replace g2 := g2.ext hYY
  replace HB := ext_trans HB hYY
  clear hYY hb
  go_wp2_with fail
  refine (equal_lit (g1.ext (by (repeat (first | exact Below.refl _ _ | refine ext_alloc' ?_ _)))) (g2.ext (by (repeat (first | exact Below.refl _ _ | refine ext_alloc' ?_ _)))) rfl).mono ?_
  rintro _ w4 ⟨_, rfl, hb, rfl⟩
  have hYY := ext_trans (by (repeat (first | exact Below.refl _ _ | refine ext_alloc' ?_ _)) : Below w3.heap.size w3 _) hb
  replace hx := hx.ext hYY
  replace hy := hy.ext hYY
  replace g1 := g1.ext hYY
  replace g2 := g2.ext hYY
  replace HB := ext_trans HB hYY
  clear hYY hb
  go_wp2_with fail
  refine (subsumes_calls (hx.ext (by (repeat (first | exact Below.refl _ _ | refine ext_alloc' ?_ _)))) (hy.ext (by (repeat (first | exact Below.refl _ _ | refine ext_alloc' ?_ _))))).mono ?_
  rintro _ w5 ⟨_, rfl, hb, rfl⟩
  have hYY := ext_trans (by (repeat (first | exact Below.refl _ _ | refine ext_alloc' ?_ _)) : Below w4.heap.size w4 _) hb
  replace hx := hx.ext hYY
  replace hy := hy.ext hYY
  replace g1 := g1.ext hYY
  replace g2 := g2.ext hYY
  replace HB := ext_trans HB hYY
  clear hYY hb
  go_wp2_with fail
  refine (rsub_calls (hx.ext (by (repeat (first | exact Below.refl _ _ | refine ext_alloc' ?_ _)))) (hy.ext (by (repeat (first | exact Below.refl _ _ | refine ext_alloc' ?_ _))))).mono ?_
  rintro _ w6 ⟨_, rfl, hb, rfl⟩
  have hYY := ext_trans (by (repeat (first | exact Below.refl _ _ | refine ext_alloc' ?_ _)) : Below w5.heap.size w5 _) hb
  replace hx := hx.ext hYY
  replace hy := hy.ext hYY
  replace g1 := g1.ext hYY
  replace g2 := g2.ext hYY
  replace HB := ext_trans HB hYY
  clear hYY hb
  go_wp2
  go_ret
  exact .mk HB rfl
end Go.Proofs.Ytifcgcdbebgahaa
