/- The examples that each statement on clauses checks. Printed by aw41.py. -/
import Derived.Test.YtifcgcdbebgahaaClZh
namespace Go.Proofs.Ytifcgcdbebgahaa
set_option linter.unusedVariables false
open Go.RowKit
attribute [local go_sem ↓] Go.wp_at_zero Go.wp_at_succ

theorem equal_lit {S S' : Nat → Prop} {w : World} {va vb : Value} {a b : List Int} (ha : Ints S w va a) (hb : Ints S' w vb b) (e : a = b) : Calls Try.prog 20 #[va, vb] w (Post w fun _ r => r = .bool true) :=
  (equal_calls ha hb).mono fun _ _ h => h.imp fun _ r h => by rw [h, decide_eq_true e]
/-- Propagate, its answer known. -/
theorem prop_lit {S S' : Nat → Prop} {w : World} {va vb : Value} {m : Mx} {x l r : List Int} {i e : Int} {n k : Nat} (ha : MatV S w va m) (hx : Ints S' w vb x) (hxl : x.length ≤ 100000) (h : propS m x = (((l, r), i), e)) (hn : n = l.length) (hk : k = r.length) :
    Calls Try.prog 18 #[va, vb] w (Post w fun w' v => ∃ a c b d, v = .tuple #[.slice a n c, .slice b k d, .int .i64 i, .int .i64 e] ∧ Ints TT w' (.slice a n c) l ∧ Ints TT w' (.slice b k d) r) := by
  subst hn hk
  refine (propagate_calls ha hx hxl).mono fun _ _ hp => hp.imp ?_
  rw [h]
  rintro w' v ⟨a, c, b, d, rfl, h1, h2⟩
  exact ⟨a, c, b, d, rfl, h1.mono fun _ _ => trivial, h2.mono fun _ _ => trivial⟩
theorem res_lit {S S' : Nat → Prop} {w : World} {va vb : Value} {x y l : List Int} {v e : Int} {n : Nat} (ha : Ints S w va x) (hb : Ints S' w vb y) (hv : WF v) (h : resolveS x y v = (l, e)) (hn : n = l.length) :
    Calls Try.prog 28 #[va, vb, .int .i64 v] w (Post w fun w' r => ∃ a c, r = .tuple #[.slice a n c, .int .i64 e] ∧ Ints TT w' (.slice a n c) l) := by
  subst hn
  refine (resolve_calls ha hb hv).mono fun _ _ hp => hp.imp ?_
  rw [h]
  rintro w' r ⟨a, c, rfl, h1⟩
  exact ⟨a, c, rfl, h1⟩
theorem eval_lit {S S' : Nat → Prop} {w : World} {va vb : Value} {m : Mx} {x : List Int} {i e : Int} {q : Bool} (ha : MatV S w va m) (hx : Ints S' w vb x) (h : evalS m x = (i, q, e)) :
    Calls Try.prog 13 #[va, vb] w (Post w fun _ r => r = .tuple #[.int .i64 i, .bool q, .int .i64 e]) :=
  (eval_calls ha hx).mono fun _ _ hp => hp.imp fun _ r hr => by rw [hr, h]
theorem asg_lit {S S' : Nat → Prop} {w : World} {va vb : Value} {m : Mx} {x : List Int} {c e : Int} {ll : List (List Int)} {n : Nat} (ha : MatV S w va m) (hx : Ints S' w vb x) (hxl : x.length ≤ 100000) (h : assignS m x = (⟨c, ll⟩, e)) (hn : n = ll.length) :
    Calls Try.prog 15 #[va, vb] w (Post w fun w' r => ∃ a cap, r = .tuple #[.agg #[.int .i64 c, .slice a n cap], .int .i64 e] ∧ MatV TT w' (.agg #[.int .i64 c, .slice a n cap]) ⟨c, ll⟩) := by
  subst hn
  refine (assign_calls ha hx hxl).mono fun _ _ hp => hp.imp ?_
  rw [h]
  rintro w' r ⟨mv, rfl, rv, rfl, hl⟩
  have hl := hl.mono (S' := TT) fun _ _ => trivial
  obtain ⟨a, cap, rfl, _⟩ := hl.form
  exact ⟨a, cap, rfl, _, rfl, hl⟩
theorem same_lit {S S' : Nat → Prop} {w : World} {va vb : Value} {a b : Mx} (ha : MatV S w va a) (hb : MatV S' w vb b) (e : a = b) : Calls Try.prog 17 #[va, vb] w (Post w fun _ r => r = .bool true) :=
  (same_calls ha hb).mono fun _ _ h => h.imp fun _ r h => by rw [h, sameM_iff.2 e]

set_option maxRecDepth 100000 in
set_option maxHeartbeats 4000000 in
theorem propagates_lit {w : World} {va vx vl vr : Value} {m : Mx} {x l r : List Int} {i : Int} (hm : MatV TT w va m) (hx : Ints TT w vx x) (hl : Ints TT w vl l) (hr : Ints TT w vr r) (hxl : x.length ≤ 100000) (h : propS m x = (((l, r), i), 0)) :
    Calls Try.prog 38 #[va, vx, vl, vr, .int .i64 i] w (Post w fun _ v => v = .bool true) := by
  obtain ⟨cols, ll⟩ := m
  obtain ⟨ra, rfl, la⟩ := hm
  obtain ⟨aa, acap, rfl, _⟩ := la.form
  dsimp only at la ⊢
  obtain ⟨ax, cx, rfl, _⟩ := hx.form
  obtain ⟨al, cl, rfl, _⟩ := hl.form
  obtain ⟨ar, cr, rfl, _⟩ := hr.form
  have hm : MatV TT w (.agg #[.int .i64 cols, .slice aa ll.length acap]) ⟨cols, ll⟩ := ⟨_, rfl, la⟩
  have R1 := row_new w [.int .i64 cols, .slice aa ll.length acap] 24
  have HP := Lib.hid h
  have HX := Lib.hid hxl
  have HB := Below.refl w.heap.size w
  clear la h hxl
  go_enter Try.func38, Try.ntmps38
  clear R1
  go_wp2_with fail
  refine (prop_lit (n := l.length) (k := r.length) (hm.ext (by (repeat (first | exact Below.refl _ _ | refine ext_alloc' ?_ _)))) (hx.ext (by (repeat (first | exact Below.refl _ _ | refine ext_alloc' ?_ _)))) HX.out HP.out rfl rfl).mono ?_
  rintro _ w1 ⟨_, rfl, hb, a1, c1, b1, d1, rfl, h1, h2⟩
  have hy := ext_trans (by (repeat (first | exact Below.refl _ _ | refine ext_alloc' ?_ _)) : Below w.heap.size w _) hb
  replace hm := hm.ext hy
  replace hx := hx.ext hy
  replace hl := hl.ext hy
  replace hr := hr.ext hy
  replace HB := ext_trans HB hy
  clear hy hb
  go_wp2_with fail
  refine (equal_lit (h1.ext (by (repeat (first | exact Below.refl _ _ | refine ext_alloc' ?_ _)))) (hl.ext (by (repeat (first | exact Below.refl _ _ | refine ext_alloc' ?_ _)))) rfl).mono ?_
  rintro _ w2 ⟨_, rfl, hb, rfl⟩
  have hy := ext_trans (by (repeat (first | exact Below.refl _ _ | refine ext_alloc' ?_ _)) : Below w1.heap.size w1 _) hb
  replace hm := hm.ext hy
  replace hx := hx.ext hy
  replace hl := hl.ext hy
  replace hr := hr.ext hy
  replace h1 := h1.ext hy
  replace h2 := h2.ext hy
  replace HB := ext_trans HB hy
  clear hy hb
  go_wp2_with fail
  refine (equal_lit (h2.ext (by (repeat (first | exact Below.refl _ _ | refine ext_alloc' ?_ _)))) (hr.ext (by (repeat (first | exact Below.refl _ _ | refine ext_alloc' ?_ _)))) rfl).mono ?_
  rintro _ w3 ⟨_, rfl, hb, rfl⟩
  have hy := ext_trans (by (repeat (first | exact Below.refl _ _ | refine ext_alloc' ?_ _)) : Below w2.heap.size w2 _) hb
  replace hm := hm.ext hy
  replace hx := hx.ext hy
  replace hl := hl.ext hy
  replace hr := hr.ext hy
  replace h1 := h1.ext hy
  replace h2 := h2.ext hy
  replace HB := ext_trans HB hy
  clear hy hb
  go_wp2
  go_ret
  exact .mk HB rfl

set_option maxRecDepth 100000 in
set_option maxHeartbeats 8000000 in
theorem awake_calls (w : World) : Calls Try.prog 12 #[] w (Post w fun _ v => v = .bool true) := by
  have HB := Below.refl w.heap.size w
  go_enter Try.func12, Try.ntmps12
  go_wp2_with fail
  refine (example_calls _).mono ?_
  rintro _ w1 ⟨_, rfl, hb, a1, c1, rfl, hm⟩
  have hy := ext_trans (by (repeat (first | exact Below.refl _ _ | refine ext_alloc' ?_ _)) : Below w.heap.size w _) hb
  replace HB := ext_trans HB hy
  clear hy hb
  go_wp2_with fail
  refine (propagates_lit (m := exC) (x := [1]) (l := [1, 3, -2]) (r := [-1, 1, 2]) (i := (-1)) (hm.ext (by (repeat (first | exact Below.refl _ _ | refine ext_alloc' ?_ _)))) (by refine lit_at (e := 3) (l := [1]) ?_ (by decide) (by decide); repeat (first | exact row_at _ _ _ _ (by simp) | refine Row.alloc ?_ _)) (by refine lit_at (e := 3) (l := [1, 3, -2]) ?_ (by decide) (by decide); repeat (first | exact row_at _ _ _ _ (by simp) | refine Row.alloc ?_ _)) (by refine lit_at (e := 3) (l := [-1, 1, 2]) ?_ (by decide) (by decide); repeat (first | exact row_at _ _ _ _ (by simp) | refine Row.alloc ?_ _)) (by decide) (by decide +kernel)).mono ?_
  rintro _ w2 ⟨_, rfl, hb, rfl⟩
  have R1 : Row w2 w1.heap.size 24 [.int .i64 4, .slice a1 4 c1] := Row.ext (by repeat (first | exact row_at _ _ _ _ (by simp) | refine Row.alloc ?_ _)) hb
  have hy := ext_trans (by (repeat (first | exact Below.refl _ _ | refine ext_alloc' ?_ _)) : Below w1.heap.size w1 _) hb
  replace hm := hm.ext hy
  replace HB := ext_trans HB hy
  clear hy hb
  obtain ⟨R1q0, R1q1⟩ := R1.two
  have R1l := R1.lt
  go_wp2_with fail
  refine (propagates_lit (m := exC) (x := [2]) (l := [2, -3, -1, 4]) (r := [-1, 2, 1, 3]) (i := (-1)) (hm.ext (by (repeat (first | exact Below.refl _ _ | refine ext_alloc' ?_ _)))) (by refine lit_at (e := 3) (l := [2]) ?_ (by decide) (by decide); repeat (first | exact row_at _ _ _ _ (by simp) | refine Row.alloc ?_ _)) (by refine lit_at (e := 3) (l := [2, -3, -1, 4]) ?_ (by decide) (by decide); repeat (first | exact row_at _ _ _ _ (by simp) | refine Row.alloc ?_ _)) (by refine lit_at (e := 3) (l := [-1, 2, 1, 3]) ?_ (by decide) (by decide); repeat (first | exact row_at _ _ _ _ (by simp) | refine Row.alloc ?_ _)) (by decide) (by decide +kernel)).mono ?_
  rintro _ w3 ⟨_, rfl, hb, rfl⟩
  have hy := ext_trans (by (repeat (first | exact Below.refl _ _ | refine ext_alloc' ?_ _)) : Below w2.heap.size w2 _) hb
  replace hm := hm.ext hy
  replace R1 := R1.ext hy
  replace HB := ext_trans HB hy
  clear R1q0 R1q1 R1l hy hb
  obtain ⟨R1q0, R1q1⟩ := R1.two
  have R1l := R1.lt
  go_wp2_with fail
  refine (propagates_lit (m := exC) (x := [1, 2]) (l := [1, 2, 3]) (r := [-1, -1, 1]) (i := 2) (hm.ext (by (repeat (first | exact Below.refl _ _ | refine ext_alloc' ?_ _)))) (by refine lit_at (e := 3) (l := [1, 2]) ?_ (by decide) (by decide); repeat (first | exact row_at _ _ _ _ (by simp) | refine Row.alloc ?_ _)) (by refine lit_at (e := 3) (l := [1, 2, 3]) ?_ (by decide) (by decide); repeat (first | exact row_at _ _ _ _ (by simp) | refine Row.alloc ?_ _)) (by refine lit_at (e := 3) (l := [-1, -1, 1]) ?_ (by decide) (by decide); repeat (first | exact row_at _ _ _ _ (by simp) | refine Row.alloc ?_ _)) (by decide) (by decide +kernel)).mono ?_
  rintro _ w4 ⟨_, rfl, hb, rfl⟩
  have hy := ext_trans (by (repeat (first | exact Below.refl _ _ | refine ext_alloc' ?_ _)) : Below w3.heap.size w3 _) hb
  replace hm := hm.ext hy
  replace R1 := R1.ext hy
  replace HB := ext_trans HB hy
  clear R1q0 R1q1 R1l hy hb
  obtain ⟨R1q0, R1q1⟩ := R1.two
  have R1l := R1.lt
  go_wp2_with fail
  refine (eval_lit (m := exC) (i := 0) (q := true) (e := 0) (hm.ext (by (repeat (first | exact Below.refl _ _ | refine ext_alloc' ?_ _)))) (by refine lit_at (e := 3) (l := [1, -2, 3, -4]) ?_ (by decide) (by decide); repeat (first | exact row_at _ _ _ _ (by simp) | refine Row.alloc ?_ _)) (by decide +kernel)).mono ?_
  rintro _ w5 ⟨_, rfl, hb, rfl⟩
  have hy := ext_trans (by (repeat (first | exact Below.refl _ _ | refine ext_alloc' ?_ _)) : Below w4.heap.size w4 _) hb
  replace hm := hm.ext hy
  replace R1 := R1.ext hy
  replace HB := ext_trans HB hy
  clear R1q0 R1q1 R1l hy hb
  obtain ⟨R1q0, R1q1⟩ := R1.two
  have R1l := R1.lt
  go_wp2_with fail
  refine (eval_lit (m := exC) (i := 2) (q := false) (e := 0) (hm.ext (by (repeat (first | exact Below.refl _ _ | refine ext_alloc' ?_ _)))) (by refine lit_at (e := 3) (l := [1, 2, 3, 4]) ?_ (by decide) (by decide); repeat (first | exact row_at _ _ _ _ (by simp) | refine Row.alloc ?_ _)) (by decide +kernel)).mono ?_
  rintro _ w6 ⟨_, rfl, hb, rfl⟩
  have hy := ext_trans (by (repeat (first | exact Below.refl _ _ | refine ext_alloc' ?_ _)) : Below w5.heap.size w5 _) hb
  replace hm := hm.ext hy
  replace R1 := R1.ext hy
  replace HB := ext_trans HB hy
  clear R1q0 R1q1 R1l hy hb
  obtain ⟨R1q0, R1q1⟩ := R1.two
  have R1l := R1.lt
  go_wp2_with fail
  refine (res_lit (l := [2, 3]) (e := 0) (n := 2) (by refine lit_at (e := 3) (l := [1, 2]) ?_ (by decide) (by decide); repeat (first | exact row_at _ _ _ _ (by simp) | refine Row.alloc ?_ _)) (by refine lit_at (e := 3) (l := [-1, 3]) ?_ (by decide) (by decide); repeat (first | exact row_at _ _ _ _ (by simp) | refine Row.alloc ?_ _)) (WF.small (by omega)) (by decide +kernel) rfl).mono ?_
  rintro _ w7 ⟨_, rfl, hb, a2, c2, rfl, hr⟩
  have hy := ext_trans (by (repeat (first | exact Below.refl _ _ | refine ext_alloc' ?_ _)) : Below w6.heap.size w6 _) hb
  replace hm := hm.ext hy
  replace R1 := R1.ext hy
  replace HB := ext_trans HB hy
  clear R1q0 R1q1 R1l hy hb
  obtain ⟨R1q0, R1q1⟩ := R1.two
  have R1l := R1.lt
  go_wp2_with fail
  refine (asg_lit (m := exC) (c := 4) (e := 0) (ll := [[1], [-1, 3]]) (n := 2) (hm.ext (by (repeat (first | exact Below.refl _ _ | refine ext_alloc' ?_ _)))) (by refine lit_at (e := 3) (l := [-2]) ?_ (by decide) (by decide); repeat (first | exact row_at _ _ _ _ (by simp) | refine Row.alloc ?_ _)) (by decide) (by kernel_rfl) rfl).mono ?_
  rintro _ w8 ⟨_, rfl, hb, a3, c3, rfl, ha⟩
  have hy := ext_trans (by (repeat (first | exact Below.refl _ _ | refine ext_alloc' ?_ _)) : Below w7.heap.size w7 _) hb
  replace hm := hm.ext hy
  replace hr := hr.ext hy
  replace R1 := R1.ext hy
  replace HB := ext_trans HB hy
  clear R1q0 R1q1 R1l hy hb
  have R2 := row_new w8 [.int .i64 4, .slice a3 2 c3] 24
  clear R2
  obtain ⟨R1q0, R1q1⟩ := R1.two
  have R1l := R1.lt
  go_wp2_with fail
  refine (equal_lit (hr.ext (by (repeat (first | exact Below.refl _ _ | refine ext_alloc' ?_ _)))) (by refine lit_at (e := 3) (l := [2, 3]) ?_ (by decide) (by decide); repeat (first | exact row_at _ _ _ _ (by simp) | refine Row.alloc ?_ _)) rfl).mono ?_
  rintro _ w9 ⟨_, rfl, hb, rfl⟩
  have R2 : Row w9 w8.heap.size 24 [.int .i64 4, .slice a3 2 c3] := Row.ext (by repeat (first | exact row_at _ _ _ _ (by simp) | refine Row.alloc ?_ _)) hb
  have hy := ext_trans (by (repeat (first | exact Below.refl _ _ | refine ext_alloc' ?_ _)) : Below w8.heap.size w8 _) hb
  replace hm := hm.ext hy
  replace hr := hr.ext hy
  replace ha := ha.ext hy
  replace R1 := R1.ext hy
  replace HB := ext_trans HB hy
  clear R1q0 R1q1 R1l hy hb
  obtain ⟨R1q0, R1q1⟩ := R1.two
  have R1l := R1.lt
  obtain ⟨R2q0, R2q1⟩ := R2.two
  have R2l := R2.lt
  go_wp2_with fail
  refine (same_lit (S' := TT) (a := ⟨4, [[1], [-1, 3]]⟩) (b := ⟨4, [[1], [-1, 3]]⟩) (ha.ext (by (repeat (first | exact Below.refl _ _ | refine ext_alloc' ?_ _)))) ⟨_, rfl, ?_⟩ rfl).mono ?_
  · refine lits_at (e := 25) (ll := [[1], [-1, 3]]) (vs := [.slice (some ⟨w9.heap.size, 0, none⟩) 1 1, .slice (some ⟨w9.heap.size + 1, 0, none⟩) 2 2]) ?_ (by decide) (show Ints TT _ _ _ ∧ Ints TT _ _ _ ∧ True from ⟨?_, ?_, trivial⟩)
    · repeat (first | exact row_at _ _ _ _ (by simp) | refine Row.alloc ?_ _)
    · refine lit_at (e := 3) (l := [1]) ?_ (by decide) (by decide)
      repeat (first | exact row_at _ _ _ _ (by simp) | refine Row.alloc ?_ _)
    · refine lit_at (e := 3) (l := [-1, 3]) ?_ (by decide) (by decide)
      repeat (first | exact row_at _ _ _ _ (by simp) | refine Row.alloc ?_ _)
  rintro _ w10 ⟨_, rfl, hb, rfl⟩
  have hy := ext_trans (by (repeat (first | exact Below.refl _ _ | refine ext_alloc' ?_ _)) : Below w9.heap.size w9 _) hb
  replace hm := hm.ext hy
  replace hr := hr.ext hy
  replace ha := ha.ext hy
  replace R1 := R1.ext hy
  replace R2 := R2.ext hy
  replace HB := ext_trans HB hy
  clear R1q0 R1q1 R1l R2q0 R2q1 R2l hy hb
  go_wp2
  go_ret
  exact .mk HB rfl
end Go.Proofs.Ytifcgcdbebgahaa
