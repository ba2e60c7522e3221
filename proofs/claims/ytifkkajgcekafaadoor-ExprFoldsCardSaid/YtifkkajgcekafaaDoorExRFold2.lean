/- The reference's simple. -/
import Derived.Test.YtifkkajgcekafaaDoorExRFold1
import Derived.Deep.DeepCutAuto
namespace Go.Proofs.YtifkkajgcekafaaDoor
set_option linter.unusedVariables false
open Go.RowKit
attribute [local go_sem ↓] Go.wp_at_zero Go.wp_at_succ

set_option maxRecDepth 100000 in
set_option maxHeartbeats 4000000 in
theorem refSimple_other {S : Nat → Prop} {w : World} {op num : Int} {xs : List Ex} {v : Value} (h : ExprV S w (.node op num xs) v) (hop : op ≤ 4) :
    Calls Tryd.prog 88 #[v] w (Post w fun W' r => ExprV (fun b => S b ∨ w.heap.size ≤ b) W' (simpleE (.node op num xs)) r) := by
  obtain ⟨a, cap, rfl, _⟩ := h.els
  obtain ⟨E, hE0⟩ : ∃ E, E = simpleE (.node op num xs) := ⟨_, rfl⟩
  rw [← hE0]
  have HEQ := Lib.hid hE0
  clear hE0
  obtain ⟨w0, hw0⟩ : ∃ w0, w0 = (w.alloc (.cells #[.int .i64 op, .int .i64 num, .slice a xs.length cap] 24)).alloc (.cells #[.int .i64 0, .int .i64 0, .slice none 0 0] 24) := ⟨_, rfl⟩
  have e0 : Below w.heap.size w w0 := by rw [hw0]; exact ext_alloc' (ext_alloc w _) _
  have rE : Row w0 w.heap.size 24 [.int .i64 op, .int .i64 num, .slice a xs.length cap] := by rw [hw0]; exact (row_new w [.int .i64 op, .int .i64 num, .slice a xs.length cap] 24).alloc _
  have rR : Row w0 (w.heap.size + 1) 24 [.int .i64 0, .int .i64 0, .slice none 0 0] := by
    have r2 := row_new (w.alloc (.cells #[.int .i64 op, .int .i64 num, .slice a xs.length cap] 24)) [.int .i64 0, .int .i64 0, .slice none 0 0] 24
    rw [World.size_alloc] at r2
    rw [hw0]
    exact r2
  have hEb := h.bound
  have xE := hEb.ext e0
  have eb := e0
  clear h
  have t5 : (op == 5) = false := beq_eq_false_iff_ne.2 (by omega)
  have t6 : (op == 6) = false := beq_eq_false_iff_ne.2 (by omega)
  have t7 : (op == 7) = false := beq_eq_false_iff_ne.2 (by omega)
  have t8 : (op == 8) = false := beq_eq_false_iff_ne.2 (by omega)
  have t9 : (op == 9) = false := beq_eq_false_iff_ne.2 (by omega)
  have t10 : (op == 10) = false := beq_eq_false_iff_ne.2 (by omega)
  have t11 : (op == 11) = false := beq_eq_false_iff_ne.2 (by omega)
  have t12 : (op == 12) = false := beq_eq_false_iff_ne.2 (by omega)
  have t13 : (op == 13) = false := beq_eq_false_iff_ne.2 (by omega)
  have t14 : (op == 14) = false := beq_eq_false_iff_ne.2 (by omega)
  have t15 : (op == 15) = false := beq_eq_false_iff_ne.2 (by omega)
  obtain ⟨x0, x1, x2⟩ := rE.three
  obtain ⟨r0, r1, r2⟩ := rR.three
  have qr0 := rR.free 0
  have qr1 := rR.free 1
  have qr2 := rR.free 2
  have hl := rE.lt
  have hl2 := rR.lt
  go_enter Tryd.func88, Tryd.ntmps88
  go_wp2
  refine bodyPost_ret (v := .agg #[.int .i64 op, .int .i64 num, .slice a xs.length cap]) (by simp [results, Tryd.results88, go_sem]) rfl ?_
  rw [show E = _ from (HEQ.out.trans (by exact simple_other (by omega)))]
  exact .mk (ext_alloc' (ext_alloc w _) _) ((hEb.ext (ext_alloc' (ext_alloc w _) _)).mono fun b h => .inl h.1)

set_option maxRecDepth 100000 in
set_option maxHeartbeats 4000000 in
theorem refSimple_num5 {S : Nat → Prop} {w : World} {x y : Ex} {v : Value} (h : ExprV S w (twoE 5 x y) v) (hsx : x.op = 0 → small x.num = true) (hsy : y.op = 0 → small y.num = true) :
    Calls Tryd.prog 88 #[v] w (Post w fun W' r => ExprV (fun b => S b ∨ w.heap.size ≤ b) W' (simpleE (twoE 5 x y)) r) := by
  obtain ⟨a, cap, b, off, a', c', b2, off2, a2, c2, rfl, hel, hel2⟩ := h.two
  obtain ⟨E, hE0⟩ : ∃ E, E = simpleE (twoE 5 x y) := ⟨_, rfl⟩
  rw [← hE0]
  have HEQ := Lib.hid hE0
  clear hE0
  obtain ⟨w0, hw0⟩ : ∃ w0, w0 = (w.alloc (.cells #[.int .i64 5, .int .i64 0, .slice a 2 cap] 24)).alloc (.cells #[.int .i64 0, .int .i64 0, .slice none 0 0] 24) := ⟨_, rfl⟩
  have e0 : Below w.heap.size w w0 := by rw [hw0]; exact ext_alloc' (ext_alloc w _) _
  have rE : Row w0 w.heap.size 24 [.int .i64 5, .int .i64 0, .slice a 2 cap] := by rw [hw0]; exact (row_new w [.int .i64 5, .int .i64 0, .slice a 2 cap] 24).alloc _
  have rR : Row w0 (w.heap.size + 1) 24 [.int .i64 0, .int .i64 0, .slice none 0 0] := by
    have r2 := row_new (w.alloc (.cells #[.int .i64 5, .int .i64 0, .slice a 2 cap] 24)) [.int .i64 0, .int .i64 0, .slice none 0 0] 24
    rw [World.size_alloc] at r2
    rw [hw0]
    exact r2
  have hEb := h.bound
  have xE := hEb.ext e0
  have eb := e0
  have hel := hel.ext e0
  have hel2 := hel2.ext e0
  have q := hel.idx
  have q2 := hel2.idx
  have c0 := hel.c0
  have d0 := hel2.c0
  clear hel hel2 h
  obtain ⟨x0, x1, x2⟩ := rE.three
  obtain ⟨r0, r1, r2⟩ := rR.three
  have qr0 := rR.free 0
  have qr1 := rR.free 1
  have qr2 := rR.free 2
  have hl := rE.lt
  have hl2 := rR.lt
  have s0 := e0.size
  by_cases hf : x.op = 0
  · have d1 : (x.op == 0) = true := beq_iff_eq.2 hf
    by_cases hg : y.op = 0
    · have d2 : (y.op == 0) = true := beq_iff_eq.2 hg
      have CALL := Lib.hid (refNumbers5 xE hf hg (hsx hf) (hsy hg))
      rw [← HEQ.out] at CALL
      clear hf hg hsx hsy
      go_enter Tryd.func88, Tryd.ntmps88
      go_upto_region 1 with fail
      rw [← hw0]
      clear hw0
      go_wp2_with fail
      refine CALL.out.mono ?_
      rintro _ w3 ⟨v9, rfl, hb3, x9⟩
      obtain ⟨a9, c9, rfl, _⟩ := x9.parts
      have tb3 := hb3
      clear q q2 c0 d0
      clear x0 x1 x2 r0 r1 r2 qr0 qr1 qr2
      obtain ⟨x0, x1, x2⟩ := (rE.ext tb3).three
      obtain ⟨r0, r1, r2⟩ := (rR.ext tb3).three
      have qr0 := (rR.ext tb3).free 0
      have qr1 := (rR.ext tb3).free 1
      have qr2 := (rR.ext tb3).free 2
      go_wp2
      refine bodyPost_ret (v := .agg #[.int .i64 E.op, .int .i64 E.num, .slice a9 E.args.length c9]) (by simp [results, Tryd.results88, go_sem, r0, r1, r2]) rfl ?_
      exact .mk (set3_below _ _ _ (ext_trans eb tb3) (by omega)) (set3_exprU _ _ _ x9 (fun hc => by omega) (fun b hc => by rcases hc with ⟨hc, _⟩ | hc; exact .inl hc; exact .inr (by omega)))
    · have d2 : (y.op == 0) = false := beq_eq_false_iff_ne.2 hg
      have HG := Lib.hid hg
      clear hf hg hsx hsy
      go_enter Tryd.func88, Tryd.ntmps88
      go_upto_region 1 with fail
      rw [← hw0]
      clear hw0
      go_wp2
      refine bodyPost_ret (v := .agg #[.int .i64 5, .int .i64 0, .slice a 2 cap]) (by simp [results, Tryd.results88, go_sem, r0, r1, r2]) rfl ?_
      rw [show E = _ from (HEQ.out.trans (by unfold twoE; rw [simple_num (by omega) (by omega), nthE_two0, nthE_two1, if_neg (fun h => HG.out h.2)]))]
      exact .mk (set3_below _ _ _ eb (by omega)) (set3_exprU _ _ _ xE (fun hc => by have := hc.2; omega) (fun b hc => .inl hc.1))
  · have d1 : (x.op == 0) = false := beq_eq_false_iff_ne.2 hf
    have HG := Lib.hid hf
    clear hf hsx hsy
    go_enter Tryd.func88, Tryd.ntmps88
    go_upto_region 1 with fail
    rw [← hw0]
    clear hw0
    go_wp2
    refine bodyPost_ret (v := .agg #[.int .i64 5, .int .i64 0, .slice a 2 cap]) (by simp [results, Tryd.results88, go_sem, r0, r1, r2]) rfl ?_
    rw [show E = _ from (HEQ.out.trans (by unfold twoE; rw [simple_num (by omega) (by omega), nthE_two0, nthE_two1, if_neg (fun h => HG.out h.1)]))]
    exact .mk (set3_below _ _ _ eb (by omega)) (set3_exprU _ _ _ xE (fun hc => by have := hc.2; omega) (fun b hc => .inl hc.1))

set_option maxRecDepth 100000 in
set_option maxHeartbeats 4000000 in
theorem refSimple_num6 {S : Nat → Prop} {w : World} {x y : Ex} {v : Value} (h : ExprV S w (twoE 6 x y) v) (hsx : x.op = 0 → small x.num = true) (hsy : y.op = 0 → small y.num = true) :
    Calls Tryd.prog 88 #[v] w (Post w fun W' r => ExprV (fun b => S b ∨ w.heap.size ≤ b) W' (simpleE (twoE 6 x y)) r) := by
  obtain ⟨a, cap, b, off, a', c', b2, off2, a2, c2, rfl, hel, hel2⟩ := h.two
  obtain ⟨E, hE0⟩ : ∃ E, E = simpleE (twoE 6 x y) := ⟨_, rfl⟩
  rw [← hE0]
  have HEQ := Lib.hid hE0
  clear hE0
  obtain ⟨w0, hw0⟩ : ∃ w0, w0 = (w.alloc (.cells #[.int .i64 6, .int .i64 0, .slice a 2 cap] 24)).alloc (.cells #[.int .i64 0, .int .i64 0, .slice none 0 0] 24) := ⟨_, rfl⟩
  have e0 : Below w.heap.size w w0 := by rw [hw0]; exact ext_alloc' (ext_alloc w _) _
  have rE : Row w0 w.heap.size 24 [.int .i64 6, .int .i64 0, .slice a 2 cap] := by rw [hw0]; exact (row_new w [.int .i64 6, .int .i64 0, .slice a 2 cap] 24).alloc _
  have rR : Row w0 (w.heap.size + 1) 24 [.int .i64 0, .int .i64 0, .slice none 0 0] := by
    have r2 := row_new (w.alloc (.cells #[.int .i64 6, .int .i64 0, .slice a 2 cap] 24)) [.int .i64 0, .int .i64 0, .slice none 0 0] 24
    rw [World.size_alloc] at r2
    rw [hw0]
    exact r2
  have hEb := h.bound
  have xE := hEb.ext e0
  have eb := e0
  have hel := hel.ext e0
  have hel2 := hel2.ext e0
  have q := hel.idx
  have q2 := hel2.idx
  have c0 := hel.c0
  have d0 := hel2.c0
  clear hel hel2 h
  obtain ⟨x0, x1, x2⟩ := rE.three
  obtain ⟨r0, r1, r2⟩ := rR.three
  have qr0 := rR.free 0
  have qr1 := rR.free 1
  have qr2 := rR.free 2
  have hl := rE.lt
  have hl2 := rR.lt
  have s0 := e0.size
  by_cases hf : x.op = 0
  · have d1 : (x.op == 0) = true := beq_iff_eq.2 hf
    by_cases hg : y.op = 0
    · have d2 : (y.op == 0) = true := beq_iff_eq.2 hg
      have CALL := Lib.hid (refNumbers6 xE hf hg (hsx hf) (hsy hg))
      rw [← HEQ.out] at CALL
      clear hf hg hsx hsy
      go_enter Tryd.func88, Tryd.ntmps88
      go_upto_region 1 with fail
      rw [← hw0]
      clear hw0
      go_wp2_with fail
      refine CALL.out.mono ?_
      rintro _ w3 ⟨v9, rfl, hb3, x9⟩
      obtain ⟨a9, c9, rfl, _⟩ := x9.parts
      have tb3 := hb3
      clear q q2 c0 d0
      clear x0 x1 x2 r0 r1 r2 qr0 qr1 qr2
      obtain ⟨x0, x1, x2⟩ := (rE.ext tb3).three
      obtain ⟨r0, r1, r2⟩ := (rR.ext tb3).three
      have qr0 := (rR.ext tb3).free 0
      have qr1 := (rR.ext tb3).free 1
      have qr2 := (rR.ext tb3).free 2
      go_wp2
      refine bodyPost_ret (v := .agg #[.int .i64 E.op, .int .i64 E.num, .slice a9 E.args.length c9]) (by simp [results, Tryd.results88, go_sem, r0, r1, r2]) rfl ?_
      exact .mk (set3_below _ _ _ (ext_trans eb tb3) (by omega)) (set3_exprU _ _ _ x9 (fun hc => by omega) (fun b hc => by rcases hc with ⟨hc, _⟩ | hc; exact .inl hc; exact .inr (by omega)))
    · have d2 : (y.op == 0) = false := beq_eq_false_iff_ne.2 hg
      have HG := Lib.hid hg
      clear hf hg hsx hsy
      go_enter Tryd.func88, Tryd.ntmps88
      go_upto_region 1 with fail
      rw [← hw0]
      clear hw0
      go_wp2
      refine bodyPost_ret (v := .agg #[.int .i64 6, .int .i64 0, .slice a 2 cap]) (by simp [results, Tryd.results88, go_sem, r0, r1, r2]) rfl ?_
      rw [show E = _ from (HEQ.out.trans (by unfold twoE; rw [simple_num (by omega) (by omega), nthE_two0, nthE_two1, if_neg (fun h => HG.out h.2)]))]
      exact .mk (set3_below _ _ _ eb (by omega)) (set3_exprU _ _ _ xE (fun hc => by have := hc.2; omega) (fun b hc => .inl hc.1))
  · have d1 : (x.op == 0) = false := beq_eq_false_iff_ne.2 hf
    have HG := Lib.hid hf
    clear hf hsx hsy
    go_enter Tryd.func88, Tryd.ntmps88
    go_upto_region 1 with fail
    rw [← hw0]
    clear hw0
    go_wp2
    refine bodyPost_ret (v := .agg #[.int .i64 6, .int .i64 0, .slice a 2 cap]) (by simp [results, Tryd.results88, go_sem, r0, r1, r2]) rfl ?_
    rw [show E = _ from (HEQ.out.trans (by unfold twoE; rw [simple_num (by omega) (by omega), nthE_two0, nthE_two1, if_neg (fun h => HG.out h.1)]))]
    exact .mk (set3_below _ _ _ eb (by omega)) (set3_exprU _ _ _ xE (fun hc => by have := hc.2; omega) (fun b hc => .inl hc.1))

set_option maxRecDepth 100000 in
set_option maxHeartbeats 4000000 in
theorem refSimple_num7 {S : Nat → Prop} {w : World} {x y : Ex} {v : Value} (h : ExprV S w (twoE 7 x y) v) (hsx : x.op = 0 → small x.num = true) (hsy : y.op = 0 → small y.num = true) :
    Calls Tryd.prog 88 #[v] w (Post w fun W' r => ExprV (fun b => S b ∨ w.heap.size ≤ b) W' (simpleE (twoE 7 x y)) r) := by
  obtain ⟨a, cap, b, off, a', c', b2, off2, a2, c2, rfl, hel, hel2⟩ := h.two
  obtain ⟨E, hE0⟩ : ∃ E, E = simpleE (twoE 7 x y) := ⟨_, rfl⟩
  rw [← hE0]
  have HEQ := Lib.hid hE0
  clear hE0
  obtain ⟨w0, hw0⟩ : ∃ w0, w0 = (w.alloc (.cells #[.int .i64 7, .int .i64 0, .slice a 2 cap] 24)).alloc (.cells #[.int .i64 0, .int .i64 0, .slice none 0 0] 24) := ⟨_, rfl⟩
  have e0 : Below w.heap.size w w0 := by rw [hw0]; exact ext_alloc' (ext_alloc w _) _
  have rE : Row w0 w.heap.size 24 [.int .i64 7, .int .i64 0, .slice a 2 cap] := by rw [hw0]; exact (row_new w [.int .i64 7, .int .i64 0, .slice a 2 cap] 24).alloc _
  have rR : Row w0 (w.heap.size + 1) 24 [.int .i64 0, .int .i64 0, .slice none 0 0] := by
    have r2 := row_new (w.alloc (.cells #[.int .i64 7, .int .i64 0, .slice a 2 cap] 24)) [.int .i64 0, .int .i64 0, .slice none 0 0] 24
    rw [World.size_alloc] at r2
    rw [hw0]
    exact r2
  have hEb := h.bound
  have xE := hEb.ext e0
  have eb := e0
  have hel := hel.ext e0
  have hel2 := hel2.ext e0
  have q := hel.idx
  have q2 := hel2.idx
  have c0 := hel.c0
  have d0 := hel2.c0
  clear hel hel2 h
  obtain ⟨x0, x1, x2⟩ := rE.three
  obtain ⟨r0, r1, r2⟩ := rR.three
  have qr0 := rR.free 0
  have qr1 := rR.free 1
  have qr2 := rR.free 2
  have hl := rE.lt
  have hl2 := rR.lt
  have s0 := e0.size
  by_cases hf : x.op = 0
  · have d1 : (x.op == 0) = true := beq_iff_eq.2 hf
    by_cases hg : y.op = 0
    · have d2 : (y.op == 0) = true := beq_iff_eq.2 hg
      have CALL := Lib.hid (refNumbers7 xE hf hg (hsx hf) (hsy hg))
      rw [← HEQ.out] at CALL
      clear hf hg hsx hsy
      go_enter Tryd.func88, Tryd.ntmps88
      go_upto_region 1 with fail
      rw [← hw0]
      clear hw0
      go_wp2_with fail
      refine CALL.out.mono ?_
      rintro _ w3 ⟨v9, rfl, hb3, x9⟩
      obtain ⟨a9, c9, rfl, _⟩ := x9.parts
      have tb3 := hb3
      clear q q2 c0 d0
      clear x0 x1 x2 r0 r1 r2 qr0 qr1 qr2
      obtain ⟨x0, x1, x2⟩ := (rE.ext tb3).three
      obtain ⟨r0, r1, r2⟩ := (rR.ext tb3).three
      have qr0 := (rR.ext tb3).free 0
      have qr1 := (rR.ext tb3).free 1
      have qr2 := (rR.ext tb3).free 2
      go_wp2
      refine bodyPost_ret (v := .agg #[.int .i64 E.op, .int .i64 E.num, .slice a9 E.args.length c9]) (by simp [results, Tryd.results88, go_sem, r0, r1, r2]) rfl ?_
      exact .mk (set3_below _ _ _ (ext_trans eb tb3) (by omega)) (set3_exprU _ _ _ x9 (fun hc => by omega) (fun b hc => by rcases hc with ⟨hc, _⟩ | hc; exact .inl hc; exact .inr (by omega)))
    · have d2 : (y.op == 0) = false := beq_eq_false_iff_ne.2 hg
      have HG := Lib.hid hg
      clear hf hg hsx hsy
      go_enter Tryd.func88, Tryd.ntmps88
      go_upto_region 1 with fail
      rw [← hw0]
      clear hw0
      go_wp2
      refine bodyPost_ret (v := .agg #[.int .i64 7, .int .i64 0, .slice a 2 cap]) (by simp [results, Tryd.results88, go_sem, r0, r1, r2]) rfl ?_
      rw [show E = _ from (HEQ.out.trans (by unfold twoE; rw [simple_num (by omega) (by omega), nthE_two0, nthE_two1, if_neg (fun h => HG.out h.2)]))]
      exact .mk (set3_below _ _ _ eb (by omega)) (set3_exprU _ _ _ xE (fun hc => by have := hc.2; omega) (fun b hc => .inl hc.1))
  · have d1 : (x.op == 0) = false := beq_eq_false_iff_ne.2 hf
    have HG := Lib.hid hf
    clear hf hsx hsy
    go_enter Tryd.func88, Tryd.ntmps88
    go_upto_region 1 with fail
    rw [← hw0]
    clear hw0
    go_wp2
    refine bodyPost_ret (v := .agg #[.int .i64 7, .int .i64 0, .slice a 2 cap]) (by simp [results, Tryd.results88, go_sem, r0, r1, r2]) rfl ?_
    rw [show E = _ from (HEQ.out.trans (by unfold twoE; rw [simple_num (by omega) (by omega), nthE_two0, nthE_two1, if_neg (fun h => HG.out h.1)]))]
    exact .mk (set3_below _ _ _ eb (by omega)) (set3_exprU _ _ _ xE (fun hc => by have := hc.2; omega) (fun b hc => .inl hc.1))

set_option maxRecDepth 100000 in
set_option maxHeartbeats 4000000 in
theorem refSimple_num8 {S : Nat → Prop} {w : World} {x y : Ex} {v : Value} (h : ExprV S w (twoE 8 x y) v) (hsx : x.op = 0 → small x.num = true) (hsy : y.op = 0 → small y.num = true) :
    Calls Tryd.prog 88 #[v] w (Post w fun W' r => ExprV (fun b => S b ∨ w.heap.size ≤ b) W' (simpleE (twoE 8 x y)) r) := by
  obtain ⟨a, cap, b, off, a', c', b2, off2, a2, c2, rfl, hel, hel2⟩ := h.two
  obtain ⟨E, hE0⟩ : ∃ E, E = simpleE (twoE 8 x y) := ⟨_, rfl⟩
  rw [← hE0]
  have HEQ := Lib.hid hE0
  clear hE0
  obtain ⟨w0, hw0⟩ : ∃ w0, w0 = (w.alloc (.cells #[.int .i64 8, .int .i64 0, .slice a 2 cap] 24)).alloc (.cells #[.int .i64 0, .int .i64 0, .slice none 0 0] 24) := ⟨_, rfl⟩
  have e0 : Below w.heap.size w w0 := by rw [hw0]; exact ext_alloc' (ext_alloc w _) _
  have rE : Row w0 w.heap.size 24 [.int .i64 8, .int .i64 0, .slice a 2 cap] := by rw [hw0]; exact (row_new w [.int .i64 8, .int .i64 0, .slice a 2 cap] 24).alloc _
  have rR : Row w0 (w.heap.size + 1) 24 [.int .i64 0, .int .i64 0, .slice none 0 0] := by
    have r2 := row_new (w.alloc (.cells #[.int .i64 8, .int .i64 0, .slice a 2 cap] 24)) [.int .i64 0, .int .i64 0, .slice none 0 0] 24
    rw [World.size_alloc] at r2
    rw [hw0]
    exact r2
  have hEb := h.bound
  have xE := hEb.ext e0
  have eb := e0
  have hel := hel.ext e0
  have hel2 := hel2.ext e0
  have q := hel.idx
  have q2 := hel2.idx
  have c0 := hel.c0
  have d0 := hel2.c0
  clear hel hel2 h
  obtain ⟨x0, x1, x2⟩ := rE.three
  obtain ⟨r0, r1, r2⟩ := rR.three
  have qr0 := rR.free 0
  have qr1 := rR.free 1
  have qr2 := rR.free 2
  have hl := rE.lt
  have hl2 := rR.lt
  have s0 := e0.size
  by_cases hf : x.op = 0
  · have d1 : (x.op == 0) = true := beq_iff_eq.2 hf
    by_cases hg : y.op = 0
    · have d2 : (y.op == 0) = true := beq_iff_eq.2 hg
      have CALL := Lib.hid (refNumbers8 xE hf hg (hsx hf) (hsy hg))
      rw [← HEQ.out] at CALL
      clear hf hg hsx hsy
      go_enter Tryd.func88, Tryd.ntmps88
      go_upto_region 1 with fail
      rw [← hw0]
      clear hw0
      go_wp2_with fail
      refine CALL.out.mono ?_
      rintro _ w3 ⟨v9, rfl, hb3, x9⟩
      obtain ⟨a9, c9, rfl, _⟩ := x9.parts
      have tb3 := hb3
      clear q q2 c0 d0
      clear x0 x1 x2 r0 r1 r2 qr0 qr1 qr2
      obtain ⟨x0, x1, x2⟩ := (rE.ext tb3).three
      obtain ⟨r0, r1, r2⟩ := (rR.ext tb3).three
      have qr0 := (rR.ext tb3).free 0
      have qr1 := (rR.ext tb3).free 1
      have qr2 := (rR.ext tb3).free 2
      go_wp2
      refine bodyPost_ret (v := .agg #[.int .i64 E.op, .int .i64 E.num, .slice a9 E.args.length c9]) (by simp [results, Tryd.results88, go_sem, r0, r1, r2]) rfl ?_
      exact .mk (set3_below _ _ _ (ext_trans eb tb3) (by omega)) (set3_exprU _ _ _ x9 (fun hc => by omega) (fun b hc => by rcases hc with ⟨hc, _⟩ | hc; exact .inl hc; exact .inr (by omega)))
    · have d2 : (y.op == 0) = false := beq_eq_false_iff_ne.2 hg
      have HG := Lib.hid hg
      clear hf hg hsx hsy
      go_enter Tryd.func88, Tryd.ntmps88
      go_upto_region 1 with fail
      rw [← hw0]
      clear hw0
      go_wp2
      refine bodyPost_ret (v := .agg #[.int .i64 8, .int .i64 0, .slice a 2 cap]) (by simp [results, Tryd.results88, go_sem, r0, r1, r2]) rfl ?_
      rw [show E = _ from (HEQ.out.trans (by unfold twoE; rw [simple_num (by omega) (by omega), nthE_two0, nthE_two1, if_neg (fun h => HG.out h.2)]))]
      exact .mk (set3_below _ _ _ eb (by omega)) (set3_exprU _ _ _ xE (fun hc => by have := hc.2; omega) (fun b hc => .inl hc.1))
  · have d1 : (x.op == 0) = false := beq_eq_false_iff_ne.2 hf
    have HG := Lib.hid hf
    clear hf hsx hsy
    go_enter Tryd.func88, Tryd.ntmps88
    go_upto_region 1 with fail
    rw [← hw0]
    clear hw0
    go_wp2
    refine bodyPost_ret (v := .agg #[.int .i64 8, .int .i64 0, .slice a 2 cap]) (by simp [results, Tryd.results88, go_sem, r0, r1, r2]) rfl ?_
    rw [show E = _ from (HEQ.out.trans (by unfold twoE; rw [simple_num (by omega) (by omega), nthE_two0, nthE_two1, if_neg (fun h => HG.out h.1)]))]
    exact .mk (set3_below _ _ _ eb (by omega)) (set3_exprU _ _ _ xE (fun hc => by have := hc.2; omega) (fun b hc => .inl hc.1))

set_option maxRecDepth 100000 in
set_option maxHeartbeats 4000000 in
theorem refSimple_num9 {S : Nat → Prop} {w : World} {x y : Ex} {v : Value} (h : ExprV S w (twoE 9 x y) v) (hsx : x.op = 0 → small x.num = true) (hsy : y.op = 0 → small y.num = true) :
    Calls Tryd.prog 88 #[v] w (Post w fun W' r => ExprV (fun b => S b ∨ w.heap.size ≤ b) W' (simpleE (twoE 9 x y)) r) := by
  obtain ⟨a, cap, b, off, a', c', b2, off2, a2, c2, rfl, hel, hel2⟩ := h.two
  obtain ⟨E, hE0⟩ : ∃ E, E = simpleE (twoE 9 x y) := ⟨_, rfl⟩
  rw [← hE0]
  have HEQ := Lib.hid hE0
  clear hE0
  obtain ⟨w0, hw0⟩ : ∃ w0, w0 = (w.alloc (.cells #[.int .i64 9, .int .i64 0, .slice a 2 cap] 24)).alloc (.cells #[.int .i64 0, .int .i64 0, .slice none 0 0] 24) := ⟨_, rfl⟩
  have e0 : Below w.heap.size w w0 := by rw [hw0]; exact ext_alloc' (ext_alloc w _) _
  have rE : Row w0 w.heap.size 24 [.int .i64 9, .int .i64 0, .slice a 2 cap] := by rw [hw0]; exact (row_new w [.int .i64 9, .int .i64 0, .slice a 2 cap] 24).alloc _
  have rR : Row w0 (w.heap.size + 1) 24 [.int .i64 0, .int .i64 0, .slice none 0 0] := by
    have r2 := row_new (w.alloc (.cells #[.int .i64 9, .int .i64 0, .slice a 2 cap] 24)) [.int .i64 0, .int .i64 0, .slice none 0 0] 24
    rw [World.size_alloc] at r2
    rw [hw0]
    exact r2
  have hEb := h.bound
  have xE := hEb.ext e0
  have eb := e0
  have hel := hel.ext e0
  have hel2 := hel2.ext e0
  have q := hel.idx
  have q2 := hel2.idx
  have c0 := hel.c0
  have d0 := hel2.c0
  clear hel hel2 h
  obtain ⟨x0, x1, x2⟩ := rE.three
  obtain ⟨r0, r1, r2⟩ := rR.three
  have qr0 := rR.free 0
  have qr1 := rR.free 1
  have qr2 := rR.free 2
  have hl := rE.lt
  have hl2 := rR.lt
  have s0 := e0.size
  by_cases hf : x.op = 0
  · have d1 : (x.op == 0) = true := beq_iff_eq.2 hf
    by_cases hg : y.op = 0
    · have d2 : (y.op == 0) = true := beq_iff_eq.2 hg
      have CALL := Lib.hid (refNumbers9 xE hf hg (hsx hf) (hsy hg))
      rw [← HEQ.out] at CALL
      clear hf hg hsx hsy
      go_enter Tryd.func88, Tryd.ntmps88
      go_upto_region 1 with fail
      rw [← hw0]
      clear hw0
      go_wp2_with fail
      refine CALL.out.mono ?_
      rintro _ w3 ⟨v9, rfl, hb3, x9⟩
      obtain ⟨a9, c9, rfl, _⟩ := x9.parts
      have tb3 := hb3
      clear q q2 c0 d0
      clear x0 x1 x2 r0 r1 r2 qr0 qr1 qr2
      obtain ⟨x0, x1, x2⟩ := (rE.ext tb3).three
      obtain ⟨r0, r1, r2⟩ := (rR.ext tb3).three
      have qr0 := (rR.ext tb3).free 0
      have qr1 := (rR.ext tb3).free 1
      have qr2 := (rR.ext tb3).free 2
      go_wp2
      refine bodyPost_ret (v := .agg #[.int .i64 E.op, .int .i64 E.num, .slice a9 E.args.length c9]) (by simp [results, Tryd.results88, go_sem, r0, r1, r2]) rfl ?_
      exact .mk (set3_below _ _ _ (ext_trans eb tb3) (by omega)) (set3_exprU _ _ _ x9 (fun hc => by omega) (fun b hc => by rcases hc with ⟨hc, _⟩ | hc; exact .inl hc; exact .inr (by omega)))
    · have d2 : (y.op == 0) = false := beq_eq_false_iff_ne.2 hg
      have HG := Lib.hid hg
      clear hf hg hsx hsy
      go_enter Tryd.func88, Tryd.ntmps88
      go_upto_region 1 with fail
      rw [← hw0]
      clear hw0
      go_wp2
      refine bodyPost_ret (v := .agg #[.int .i64 9, .int .i64 0, .slice a 2 cap]) (by simp [results, Tryd.results88, go_sem, r0, r1, r2]) rfl ?_
      rw [show E = _ from (HEQ.out.trans (by unfold twoE; rw [simple_num (by omega) (by omega), nthE_two0, nthE_two1, if_neg (fun h => HG.out h.2)]))]
      exact .mk (set3_below _ _ _ eb (by omega)) (set3_exprU _ _ _ xE (fun hc => by have := hc.2; omega) (fun b hc => .inl hc.1))
  · have d1 : (x.op == 0) = false := beq_eq_false_iff_ne.2 hf
    have HG := Lib.hid hf
    clear hf hsx hsy
    go_enter Tryd.func88, Tryd.ntmps88
    go_upto_region 1 with fail
    rw [← hw0]
    clear hw0
    go_wp2
    refine bodyPost_ret (v := .agg #[.int .i64 9, .int .i64 0, .slice a 2 cap]) (by simp [results, Tryd.results88, go_sem, r0, r1, r2]) rfl ?_
    rw [show E = _ from (HEQ.out.trans (by unfold twoE; rw [simple_num (by omega) (by omega), nthE_two0, nthE_two1, if_neg (fun h => HG.out h.1)]))]
    exact .mk (set3_below _ _ _ eb (by omega)) (set3_exprU _ _ _ xE (fun hc => by have := hc.2; omega) (fun b hc => .inl hc.1))

set_option maxRecDepth 100000 in
set_option maxHeartbeats 4000000 in
theorem refSimple_logic10 {S : Nat → Prop} {w : World} {x y : Ex} {v : Value} (h : ExprV S w (twoE 10 x y) v) :
    Calls Tryd.prog 88 #[v] w (Post w fun W' r => ExprV (fun b => S b ∨ w.heap.size ≤ b) W' (simpleE (twoE 10 x y)) r) := by
  obtain ⟨a, cap, b, off, a', c', b2, off2, a2, c2, rfl, hel, hel2⟩ := h.two
  obtain ⟨E, hE0⟩ : ∃ E, E = simpleE (twoE 10 x y) := ⟨_, rfl⟩
  rw [← hE0]
  have HEQ := Lib.hid hE0
  clear hE0
  obtain ⟨w0, hw0⟩ : ∃ w0, w0 = (w.alloc (.cells #[.int .i64 10, .int .i64 0, .slice a 2 cap] 24)).alloc (.cells #[.int .i64 0, .int .i64 0, .slice none 0 0] 24) := ⟨_, rfl⟩
  have e0 : Below w.heap.size w w0 := by rw [hw0]; exact ext_alloc' (ext_alloc w _) _
  have rE : Row w0 w.heap.size 24 [.int .i64 10, .int .i64 0, .slice a 2 cap] := by rw [hw0]; exact (row_new w [.int .i64 10, .int .i64 0, .slice a 2 cap] 24).alloc _
  have rR : Row w0 (w.heap.size + 1) 24 [.int .i64 0, .int .i64 0, .slice none 0 0] := by
    have r2 := row_new (w.alloc (.cells #[.int .i64 10, .int .i64 0, .slice a 2 cap] 24)) [.int .i64 0, .int .i64 0, .slice none 0 0] 24
    rw [World.size_alloc] at r2
    rw [hw0]
    exact r2
  have hEb := h.bound
  have xE := hEb.ext e0
  have eb := e0
  clear hel hel2 h
  obtain ⟨x0, x1, x2⟩ := rE.three
  obtain ⟨r0, r1, r2⟩ := rR.three
  have qr0 := rR.free 0
  have qr1 := rR.free 1
  have qr2 := rR.free 2
  have hl := rE.lt
  have hl2 := rR.lt
  have s0 := e0.size
  have CALL := Lib.hid (refLogic10 xE)
  rw [← HEQ.out] at CALL
  go_enter Tryd.func88, Tryd.ntmps88
  go_upto_region 1 with fail
  rw [← hw0]
  clear hw0
  go_wp2_with fail
  refine CALL.out.mono ?_
  rintro _ w3 ⟨v9, rfl, hb3, x9⟩
  obtain ⟨a9, c9, rfl, _⟩ := x9.parts
  have tb3 := hb3
  clear x0 x1 x2 r0 r1 r2 qr0 qr1 qr2
  obtain ⟨x0, x1, x2⟩ := (rE.ext tb3).three
  obtain ⟨r0, r1, r2⟩ := (rR.ext tb3).three
  have qr0 := (rR.ext tb3).free 0
  have qr1 := (rR.ext tb3).free 1
  have qr2 := (rR.ext tb3).free 2
  go_wp2
  refine bodyPost_ret (v := .agg #[.int .i64 E.op, .int .i64 E.num, .slice a9 E.args.length c9]) (by simp [results, Tryd.results88, go_sem, r0, r1, r2]) rfl ?_
  exact .mk (set3_below _ _ _ (ext_trans eb tb3) (by omega)) (set3_exprU _ _ _ x9 (fun hc => by omega) (fun b hc => by rcases hc with ⟨hc, _⟩ | hc; exact .inl hc; exact .inr (by omega)))

set_option maxRecDepth 100000 in
set_option maxHeartbeats 4000000 in
theorem refSimple_logic11 {S : Nat → Prop} {w : World} {x y : Ex} {v : Value} (h : ExprV S w (twoE 11 x y) v) :
    Calls Tryd.prog 88 #[v] w (Post w fun W' r => ExprV (fun b => S b ∨ w.heap.size ≤ b) W' (simpleE (twoE 11 x y)) r) := by
  obtain ⟨a, cap, b, off, a', c', b2, off2, a2, c2, rfl, hel, hel2⟩ := h.two
  obtain ⟨E, hE0⟩ : ∃ E, E = simpleE (twoE 11 x y) := ⟨_, rfl⟩
  rw [← hE0]
  have HEQ := Lib.hid hE0
  clear hE0
  obtain ⟨w0, hw0⟩ : ∃ w0, w0 = (w.alloc (.cells #[.int .i64 11, .int .i64 0, .slice a 2 cap] 24)).alloc (.cells #[.int .i64 0, .int .i64 0, .slice none 0 0] 24) := ⟨_, rfl⟩
  have e0 : Below w.heap.size w w0 := by rw [hw0]; exact ext_alloc' (ext_alloc w _) _
  have rE : Row w0 w.heap.size 24 [.int .i64 11, .int .i64 0, .slice a 2 cap] := by rw [hw0]; exact (row_new w [.int .i64 11, .int .i64 0, .slice a 2 cap] 24).alloc _
  have rR : Row w0 (w.heap.size + 1) 24 [.int .i64 0, .int .i64 0, .slice none 0 0] := by
    have r2 := row_new (w.alloc (.cells #[.int .i64 11, .int .i64 0, .slice a 2 cap] 24)) [.int .i64 0, .int .i64 0, .slice none 0 0] 24
    rw [World.size_alloc] at r2
    rw [hw0]
    exact r2
  have hEb := h.bound
  have xE := hEb.ext e0
  have eb := e0
  clear hel hel2 h
  obtain ⟨x0, x1, x2⟩ := rE.three
  obtain ⟨r0, r1, r2⟩ := rR.three
  have qr0 := rR.free 0
  have qr1 := rR.free 1
  have qr2 := rR.free 2
  have hl := rE.lt
  have hl2 := rR.lt
  have s0 := e0.size
  have CALL := Lib.hid (refLogic11 xE)
  rw [← HEQ.out] at CALL
  go_enter Tryd.func88, Tryd.ntmps88
  go_upto_region 1 with fail
  rw [← hw0]
  clear hw0
  go_wp2_with fail
  refine CALL.out.mono ?_
  rintro _ w3 ⟨v9, rfl, hb3, x9⟩
  obtain ⟨a9, c9, rfl, _⟩ := x9.parts
  have tb3 := hb3
  clear x0 x1 x2 r0 r1 r2 qr0 qr1 qr2
  obtain ⟨x0, x1, x2⟩ := (rE.ext tb3).three
  obtain ⟨r0, r1, r2⟩ := (rR.ext tb3).three
  have qr0 := (rR.ext tb3).free 0
  have qr1 := (rR.ext tb3).free 1
  have qr2 := (rR.ext tb3).free 2
  go_wp2
  refine bodyPost_ret (v := .agg #[.int .i64 E.op, .int .i64 E.num, .slice a9 E.args.length c9]) (by simp [results, Tryd.results88, go_sem, r0, r1, r2]) rfl ?_
  exact .mk (set3_below _ _ _ (ext_trans eb tb3) (by omega)) (set3_exprU _ _ _ x9 (fun hc => by omega) (fun b hc => by rcases hc with ⟨hc, _⟩ | hc; exact .inl hc; exact .inr (by omega)))

set_option maxRecDepth 100000 in
set_option maxHeartbeats 4000000 in
theorem refSimple_not12 {S : Nat → Prop} {w : World} {x : Ex} {v : Value} (h : ExprV S w (oneE 12 x) v) (hnot : x.op = 12 → ∃ z, x = oneE 12 z) :
    Calls Tryd.prog 88 #[v] w (Post w fun W' r => ExprV (fun b => S b ∨ w.heap.size ≤ b) W' (simpleE (oneE 12 x)) r) := by
  obtain ⟨a, cap, b, off, a', c', rfl, hel⟩ := h.bound.one
  obtain ⟨E, hE0⟩ : ∃ E, E = simpleE (oneE 12 x) := ⟨_, rfl⟩
  rw [← hE0]
  have HEQ := Lib.hid hE0
  clear hE0
  obtain ⟨w0, hw0⟩ : ∃ w0, w0 = (w.alloc (.cells #[.int .i64 12, .int .i64 0, .slice a 1 cap] 24)).alloc (.cells #[.int .i64 0, .int .i64 0, .slice none 0 0] 24) := ⟨_, rfl⟩
  have e0 : Below w.heap.size w w0 := by rw [hw0]; exact ext_alloc' (ext_alloc w _) _
  have rE : Row w0 w.heap.size 24 [.int .i64 12, .int .i64 0, .slice a 1 cap] := by rw [hw0]; exact (row_new w [.int .i64 12, .int .i64 0, .slice a 1 cap] 24).alloc _
  have rR : Row w0 (w.heap.size + 1) 24 [.int .i64 0, .int .i64 0, .slice none 0 0] := by
    have r2 := row_new (w.alloc (.cells #[.int .i64 12, .int .i64 0, .slice a 1 cap] 24)) [.int .i64 0, .int .i64 0, .slice none 0 0] 24
    rw [World.size_alloc] at r2
    rw [hw0]
    exact r2
  have hEb := h.bound
  have xE := hEb.ext e0
  have eb := e0
  have hel := hel.ext e0
  clear h
  have q := hel.idx
  have s0 := e0.size
  obtain ⟨x0, x1, x2⟩ := rE.three
  obtain ⟨r0, r1, r2⟩ := rR.three
  have qr0 := rR.free 0
  have qr1 := rR.free 1
  have qr2 := rR.free 2
  have f0 := hel.c0
  have f1 := hel.c1
  have f2 := hel.c2
  have hl := rE.lt
  have hl2 := rR.lt
  go_enter Tryd.func88, Tryd.ntmps88
  go_upto_region 1 with fail
  rw [← hw0]
  clear hw0
  go_wp2_with fail
  obtain ⟨w2, hw2⟩ : ∃ w2, w2 = w0.alloc (.cells #[.int .i64 x.op, .int .i64 x.num, .slice a' x.args.length c'] 24) := ⟨_, rfl⟩
  rw [← hw2]
  have hb2 : Below w0.heap.size w0 w2 := by rw [hw2]; exact ext_alloc w0 _
  have rF : Row w2 w0.heap.size 24 [.int .i64 x.op, .int .i64 x.num, .slice a' x.args.length c'] := by rw [hw2]; exact row_new w0 [.int .i64 x.op, .int .i64 x.num, .slice a' x.args.length c'] 24
  clear hw2
  have eb := ext_trans eb hb2
  have rE := rE.ext hb2
  have rR := rR.ext hb2
  have xE := xE.ext hb2
  have hel := hel.ext hb2
  clear x0 x1 x2 r0 r1 r2 qr0 qr1 qr2 f0 f1 f2
  have xF : ExprV (fun b => S b ∧ b < w.heap.size) w2 x _ := hel.ex
  have s2 := eb.size
  have s3 := hb2.size
  obtain ⟨x0, x1, x2⟩ := rE.three
  obtain ⟨f0, f1, f2⟩ := rF.three
  obtain ⟨r0, r1, r2⟩ := rR.three
  have qr0 := rR.free 0
  have qr1 := rR.free 1
  have qr2 := rR.free 2
  go_wp2_with fail
  refine (refIs_calls xF true).mono ?_
  rintro _ w3 ⟨_, rfl, hb3, rfl⟩
  have tb3 := hb3
  clear x0 x1 x2 f0 f1 f2 r0 r1 r2 qr0 qr1 qr2
  obtain ⟨x0, x1, x2⟩ := (rE.ext tb3).three
  obtain ⟨f0, f1, f2⟩ := (rF.ext tb3).three
  obtain ⟨r0, r1, r2⟩ := (rR.ext tb3).three
  have qr0 := (rR.ext tb3).free 0
  have qr1 := (rR.ext tb3).free 1
  have qr2 := (rR.ext tb3).free 2
  cases g3 : isE x true with
  | true =>
    have G3 := Lib.hid g3
    clear g3
    go_wp2_with fail
    refine (refIs_calls (xF.ext tb3) false).mono ?_
    rintro _ w4 ⟨_, rfl, hb4, rfl⟩
    have tb4 := ext_trans tb3 hb4
    clear x0 x1 x2 f0 f1 f2 r0 r1 r2 qr0 qr1 qr2
    obtain ⟨x0, x1, x2⟩ := (rE.ext tb4).three
    obtain ⟨f0, f1, f2⟩ := (rF.ext tb4).three
    obtain ⟨r0, r1, r2⟩ := (rR.ext tb4).three
    have qr0 := (rR.ext tb4).free 0
    have qr1 := (rR.ext tb4).free 1
    have qr2 := (rR.ext tb4).free 2
    cases g4 : isE x false with
    | true =>
      have G4 := Lib.hid g4
      clear g4
      go_wp2_with fail
      refine (refFlag_calls _ true).mono ?_
      rintro _ w5 ⟨v9, rfl, hb5, x9⟩
      have tb5 := ext_trans tb4 hb5
      have s9 := (tb4).size
      have x9' := x9.mono (S' := fun b => w.heap.size + 2 ≤ b) (by intro b h; omega)
      obtain ⟨K, hK⟩ : ∃ K, K = flagE true := ⟨_, rfl⟩
      rw [← hK] at x9'
      have HK := Lib.hid hK
      clear hK x9
      obtain ⟨a9, c9, rfl, _⟩ := x9'.parts
      clear x0 x1 x2 f0 f1 f2 r0 r1 r2 qr0 qr1 qr2
      obtain ⟨x0, x1, x2⟩ := (rE.ext tb5).three
      obtain ⟨f0, f1, f2⟩ := (rF.ext tb5).three
      obtain ⟨r0, r1, r2⟩ := (rR.ext tb5).three
      have qr0 := (rR.ext tb5).free 0
      have qr1 := (rR.ext tb5).free 1
      have qr2 := (rR.ext tb5).free 2
      go_wp2
      refine bodyPost_ret (v := .agg #[.int .i64 K.op, .int .i64 K.num, .slice a9 K.args.length c9]) (by simp [results, Tryd.results88, go_sem, r0, r1, r2]) rfl ?_
      rw [show E = _ from (HEQ.out.trans (by unfold oneE; rw [simple_not, nthE_one, if_pos (.inl G3.out), G4.out])).trans HK.out.symm]
      exact .mk (set3_below _ _ _ (ext_trans eb tb5) (by omega)) (set3_exprU _ _ _ x9' (fun hc => by omega) (fun b hc => .inr (by omega)))
    | false =>
      have G4 := Lib.hid g4
      clear g4
      go_wp2_with fail
      refine (refFlag_calls _ false).mono ?_
      rintro _ w6 ⟨v9, rfl, hb6, x9⟩
      have tb6 := ext_trans tb4 hb6
      have s9 := (tb4).size
      have x9' := x9.mono (S' := fun b => w.heap.size + 2 ≤ b) (by intro b h; omega)
      obtain ⟨K, hK⟩ : ∃ K, K = flagE false := ⟨_, rfl⟩
      rw [← hK] at x9'
      have HK := Lib.hid hK
      clear hK x9
      obtain ⟨a9, c9, rfl, _⟩ := x9'.parts
      clear x0 x1 x2 f0 f1 f2 r0 r1 r2 qr0 qr1 qr2
      obtain ⟨x0, x1, x2⟩ := (rE.ext tb6).three
      obtain ⟨f0, f1, f2⟩ := (rF.ext tb6).three
      obtain ⟨r0, r1, r2⟩ := (rR.ext tb6).three
      have qr0 := (rR.ext tb6).free 0
      have qr1 := (rR.ext tb6).free 1
      have qr2 := (rR.ext tb6).free 2
      go_wp2
      refine bodyPost_ret (v := .agg #[.int .i64 K.op, .int .i64 K.num, .slice a9 K.args.length c9]) (by simp [results, Tryd.results88, go_sem, r0, r1, r2]) rfl ?_
      rw [show E = _ from (HEQ.out.trans (by unfold oneE; rw [simple_not, nthE_one, if_pos (.inl G3.out), G4.out])).trans HK.out.symm]
      exact .mk (set3_below _ _ _ (ext_trans eb tb6) (by omega)) (set3_exprU _ _ _ x9' (fun hc => by omega) (fun b hc => .inr (by omega)))
  | false =>
    have G3 := Lib.hid g3
    clear g3
    go_wp2_with fail
    refine (refIs_calls (xF.ext tb3) false).mono ?_
    rintro _ w7 ⟨_, rfl, hb7, rfl⟩
    have tb7 := ext_trans tb3 hb7
    clear x0 x1 x2 f0 f1 f2 r0 r1 r2 qr0 qr1 qr2
    obtain ⟨x0, x1, x2⟩ := (rE.ext tb7).three
    obtain ⟨f0, f1, f2⟩ := (rF.ext tb7).three
    obtain ⟨r0, r1, r2⟩ := (rR.ext tb7).three
    have qr0 := (rR.ext tb7).free 0
    have qr1 := (rR.ext tb7).free 1
    have qr2 := (rR.ext tb7).free 2
    cases g7 : isE x false with
    | true =>
      have G7 := Lib.hid g7
      clear g7
      go_wp2_with fail
      refine (refIs_calls (xF.ext tb7) false).mono ?_
      rintro _ w8 ⟨_, rfl, hb8, rfl⟩
      have tb8 := ext_trans tb7 hb8
      clear x0 x1 x2 f0 f1 f2 r0 r1 r2 qr0 qr1 qr2
      obtain ⟨x0, x1, x2⟩ := (rE.ext tb8).three
      obtain ⟨f0, f1, f2⟩ := (rF.ext tb8).three
      obtain ⟨r0, r1, r2⟩ := (rR.ext tb8).three
      have qr0 := (rR.ext tb8).free 0
      have qr1 := (rR.ext tb8).free 1
      have qr2 := (rR.ext tb8).free 2
      cases g8 : isE x false with
      | true =>
        have G8 := Lib.hid g8
        clear g8
        go_wp2_with fail
        refine (refFlag_calls _ true).mono ?_
        rintro _ w9 ⟨v9, rfl, hb9, x9⟩
        have tb9 := ext_trans tb8 hb9
        have s9 := (tb8).size
        have x9' := x9.mono (S' := fun b => w.heap.size + 2 ≤ b) (by intro b h; omega)
        obtain ⟨K, hK⟩ : ∃ K, K = flagE true := ⟨_, rfl⟩
        rw [← hK] at x9'
        have HK := Lib.hid hK
        clear hK x9
        obtain ⟨a9, c9, rfl, _⟩ := x9'.parts
        clear x0 x1 x2 f0 f1 f2 r0 r1 r2 qr0 qr1 qr2
        obtain ⟨x0, x1, x2⟩ := (rE.ext tb9).three
        obtain ⟨f0, f1, f2⟩ := (rF.ext tb9).three
        obtain ⟨r0, r1, r2⟩ := (rR.ext tb9).three
        have qr0 := (rR.ext tb9).free 0
        have qr1 := (rR.ext tb9).free 1
        have qr2 := (rR.ext tb9).free 2
        go_wp2
        refine bodyPost_ret (v := .agg #[.int .i64 K.op, .int .i64 K.num, .slice a9 K.args.length c9]) (by simp [results, Tryd.results88, go_sem, r0, r1, r2]) rfl ?_
        rw [show E = _ from (HEQ.out.trans (by unfold oneE; rw [simple_not, nthE_one, if_pos (.inr G7.out), G8.out])).trans HK.out.symm]
        exact .mk (set3_below _ _ _ (ext_trans eb tb9) (by omega)) (set3_exprU _ _ _ x9' (fun hc => by omega) (fun b hc => .inr (by omega)))
      | false =>
        have G8 := Lib.hid g8
        clear g8
        exact absurd (G7.out.symm.trans G8.out) (by simp)
    | false =>
      have G7 := Lib.hid g7
      clear g7
      have k0 := (hel.ext tb7).c0
      have k1 := (hel.ext tb7).c1
      have k2 := (hel.ext tb7).c2
      by_cases h12 : x.op = 12
      · have d12 : (x.op == 12) = true := beq_iff_eq.2 h12
        obtain ⟨z, hz⟩ := hnot h12
        obtain ⟨cb, co, ca, cc, helc⟩ := el_one hz (xF.ext tb7)
        have qc := helc.idx
        have m0 := helc.c0
        have m1 := helc.c1
        have m2 := helc.c2
        have HXZ := Lib.hid hz
        have H12 := Lib.hid h12
        clear hz h12 hnot
        go_wp2
        refine bodyPost_ret (v := .agg #[.int .i64 z.op, .int .i64 z.num, .slice ca z.args.length cc]) (by simp [results, Tryd.results88, go_sem, r0, r1, r2]) rfl ?_
        rw [show E = _ from (HEQ.out.trans (by unfold oneE; rw [simple_not, nthE_one, if_neg (by rw [G3.out, G7.out]; simp), if_pos H12.out, HXZ.out]; try rfl))]
        exact .mk (set3_below _ _ _ (ext_trans eb tb7) (by omega)) (set3_exprU _ _ _ helc.ex (fun hc => by have := hc.2; omega) (fun b hc => .inl hc.1))
      · have d12 : (x.op == 12) = false := beq_eq_false_iff_ne.2 h12
        have H12 := Lib.hid h12
        clear h12 hnot
        go_wp2
        refine bodyPost_ret (v := .agg #[.int .i64 12, .int .i64 0, .slice a 1 cap]) (by simp [results, Tryd.results88, go_sem, r0, r1, r2]) rfl ?_
        rw [show E = _ from (HEQ.out.trans (by unfold oneE; rw [simple_not, nthE_one, if_neg (by rw [G3.out, G7.out]; simp), if_neg H12.out]))]
        exact .mk (set3_below _ _ _ (ext_trans eb tb7) (by omega)) (set3_exprU _ _ _ (xE.ext tb7) (fun hc => by have := hc.2; omega) (fun b hc => .inl hc.1))

set_option maxRecDepth 100000 in
set_option maxHeartbeats 4000000 in
theorem refSimple_quant13 {S : Nat → Prop} {w : World} {x : Ex} {v : Value} (h : ExprV S w (oneE 13 x) v) :
    Calls Tryd.prog 88 #[v] w (Post w fun W' r => ExprV (fun b => S b ∨ w.heap.size ≤ b) W' (simpleE (oneE 13 x)) r) := by
  obtain ⟨a, cap, b, off, a', c', rfl, hel⟩ := h.bound.one
  obtain ⟨E, hE0⟩ : ∃ E, E = simpleE (oneE 13 x) := ⟨_, rfl⟩
  rw [← hE0]
  have HEQ := Lib.hid hE0
  clear hE0
  obtain ⟨w0, hw0⟩ : ∃ w0, w0 = (w.alloc (.cells #[.int .i64 13, .int .i64 0, .slice a 1 cap] 24)).alloc (.cells #[.int .i64 0, .int .i64 0, .slice none 0 0] 24) := ⟨_, rfl⟩
  have e0 : Below w.heap.size w w0 := by rw [hw0]; exact ext_alloc' (ext_alloc w _) _
  have rE : Row w0 w.heap.size 24 [.int .i64 13, .int .i64 0, .slice a 1 cap] := by rw [hw0]; exact (row_new w [.int .i64 13, .int .i64 0, .slice a 1 cap] 24).alloc _
  have rR : Row w0 (w.heap.size + 1) 24 [.int .i64 0, .int .i64 0, .slice none 0 0] := by
    have r2 := row_new (w.alloc (.cells #[.int .i64 13, .int .i64 0, .slice a 1 cap] 24)) [.int .i64 0, .int .i64 0, .slice none 0 0] 24
    rw [World.size_alloc] at r2
    rw [hw0]
    exact r2
  have hEb := h.bound
  have xE := hEb.ext e0
  have eb := e0
  have hel := hel.ext e0
  clear h
  have q := hel.idx
  have s0 := e0.size
  obtain ⟨x0, x1, x2⟩ := rE.three
  obtain ⟨r0, r1, r2⟩ := rR.three
  have qr0 := rR.free 0
  have qr1 := rR.free 1
  have qr2 := rR.free 2
  have f0 := hel.c0
  have f1 := hel.c1
  have f2 := hel.c2
  have hl := rE.lt
  have hl2 := rR.lt
  have xF : ExprV (fun b => S b ∧ b < w.heap.size) w0 x _ := hel.ex
  go_enter Tryd.func88, Tryd.ntmps88
  go_upto_region 1 with fail
  rw [← hw0]
  clear hw0
  go_wp2_with fail
  refine (refIs_calls xF true).mono ?_
  rintro _ w3 ⟨_, rfl, hb3, rfl⟩
  have tb3 := hb3
  clear x0 x1 x2 r0 r1 r2 qr0 qr1 qr2
  obtain ⟨x0, x1, x2⟩ := (rE.ext tb3).three
  obtain ⟨r0, r1, r2⟩ := (rR.ext tb3).three
  have qr0 := (rR.ext tb3).free 0
  have qr1 := (rR.ext tb3).free 1
  have qr2 := (rR.ext tb3).free 2
  clear f0 f1 f2
  have f0 := (hel.ext tb3).c0
  have f1 := (hel.ext tb3).c1
  have f2 := (hel.ext tb3).c2
  cases g3 : isE x true with
  | true =>
    have G3 := Lib.hid g3
    clear g3
    go_wp2
    refine bodyPost_ret (v := .agg #[.int .i64 x.op, .int .i64 x.num, .slice a' x.args.length c']) (by simp [results, Tryd.results88, go_sem, r0, r1, r2]) rfl ?_
    rw [show E = _ from (HEQ.out.trans (by unfold oneE; rw [simple_quant (by omega), nthE_one, if_pos (.inl G3.out)]))]
    exact .mk (set3_below _ _ _ (ext_trans eb tb3) (by omega)) (set3_exprU _ _ _ (xF.ext tb3) (fun hc => by have := hc.2; omega) (fun b hc => .inl hc.1))
  | false =>
    have G3 := Lib.hid g3
    clear g3
    go_wp2_with fail
    refine (refIs_calls (xF.ext tb3) false).mono ?_
    rintro _ w4 ⟨_, rfl, hb4, rfl⟩
    have tb4 := ext_trans tb3 hb4
    clear x0 x1 x2 r0 r1 r2 qr0 qr1 qr2
    obtain ⟨x0, x1, x2⟩ := (rE.ext tb4).three
    obtain ⟨r0, r1, r2⟩ := (rR.ext tb4).three
    have qr0 := (rR.ext tb4).free 0
    have qr1 := (rR.ext tb4).free 1
    have qr2 := (rR.ext tb4).free 2
    clear f0 f1 f2
    have f0 := (hel.ext tb4).c0
    have f1 := (hel.ext tb4).c1
    have f2 := (hel.ext tb4).c2
    cases g4 : isE x false with
    | true =>
      have G4 := Lib.hid g4
      clear g4
      go_wp2
      refine bodyPost_ret (v := .agg #[.int .i64 x.op, .int .i64 x.num, .slice a' x.args.length c']) (by simp [results, Tryd.results88, go_sem, r0, r1, r2]) rfl ?_
      rw [show E = _ from (HEQ.out.trans (by unfold oneE; rw [simple_quant (by omega), nthE_one, if_pos (.inr G4.out)]))]
      exact .mk (set3_below _ _ _ (ext_trans eb tb4) (by omega)) (set3_exprU _ _ _ (xF.ext tb4) (fun hc => by have := hc.2; omega) (fun b hc => .inl hc.1))
    | false =>
      have G4 := Lib.hid g4
      clear g4
      go_wp2
      refine bodyPost_ret (v := .agg #[.int .i64 13, .int .i64 0, .slice a 1 cap]) (by simp [results, Tryd.results88, go_sem, r0, r1, r2]) rfl ?_
      rw [show E = _ from (HEQ.out.trans (by unfold oneE; rw [simple_quant (by omega), nthE_one, if_neg (by rw [G3.out, G4.out]; simp)]))]
      exact .mk (set3_below _ _ _ (ext_trans eb tb4) (by omega)) (set3_exprU _ _ _ (xE.ext tb4) (fun hc => by have := hc.2; omega) (fun b hc => .inl hc.1))

set_option maxRecDepth 100000 in
set_option maxHeartbeats 4000000 in
theorem refSimple_quant14 {S : Nat → Prop} {w : World} {x : Ex} {v : Value} (h : ExprV S w (oneE 14 x) v) :
    Calls Tryd.prog 88 #[v] w (Post w fun W' r => ExprV (fun b => S b ∨ w.heap.size ≤ b) W' (simpleE (oneE 14 x)) r) := by
  obtain ⟨a, cap, b, off, a', c', rfl, hel⟩ := h.bound.one
  obtain ⟨E, hE0⟩ : ∃ E, E = simpleE (oneE 14 x) := ⟨_, rfl⟩
  rw [← hE0]
  have HEQ := Lib.hid hE0
  clear hE0
  obtain ⟨w0, hw0⟩ : ∃ w0, w0 = (w.alloc (.cells #[.int .i64 14, .int .i64 0, .slice a 1 cap] 24)).alloc (.cells #[.int .i64 0, .int .i64 0, .slice none 0 0] 24) := ⟨_, rfl⟩
  have e0 : Below w.heap.size w w0 := by rw [hw0]; exact ext_alloc' (ext_alloc w _) _
  have rE : Row w0 w.heap.size 24 [.int .i64 14, .int .i64 0, .slice a 1 cap] := by rw [hw0]; exact (row_new w [.int .i64 14, .int .i64 0, .slice a 1 cap] 24).alloc _
  have rR : Row w0 (w.heap.size + 1) 24 [.int .i64 0, .int .i64 0, .slice none 0 0] := by
    have r2 := row_new (w.alloc (.cells #[.int .i64 14, .int .i64 0, .slice a 1 cap] 24)) [.int .i64 0, .int .i64 0, .slice none 0 0] 24
    rw [World.size_alloc] at r2
    rw [hw0]
    exact r2
  have hEb := h.bound
  have xE := hEb.ext e0
  have eb := e0
  have hel := hel.ext e0
  clear h
  have q := hel.idx
  have s0 := e0.size
  obtain ⟨x0, x1, x2⟩ := rE.three
  obtain ⟨r0, r1, r2⟩ := rR.three
  have qr0 := rR.free 0
  have qr1 := rR.free 1
  have qr2 := rR.free 2
  have f0 := hel.c0
  have f1 := hel.c1
  have f2 := hel.c2
  have hl := rE.lt
  have hl2 := rR.lt
  have xF : ExprV (fun b => S b ∧ b < w.heap.size) w0 x _ := hel.ex
  go_enter Tryd.func88, Tryd.ntmps88
  go_upto_region 1 with fail
  rw [← hw0]
  clear hw0
  go_wp2_with fail
  refine (refIs_calls xF true).mono ?_
  rintro _ w3 ⟨_, rfl, hb3, rfl⟩
  have tb3 := hb3
  clear x0 x1 x2 r0 r1 r2 qr0 qr1 qr2
  obtain ⟨x0, x1, x2⟩ := (rE.ext tb3).three
  obtain ⟨r0, r1, r2⟩ := (rR.ext tb3).three
  have qr0 := (rR.ext tb3).free 0
  have qr1 := (rR.ext tb3).free 1
  have qr2 := (rR.ext tb3).free 2
  clear f0 f1 f2
  have f0 := (hel.ext tb3).c0
  have f1 := (hel.ext tb3).c1
  have f2 := (hel.ext tb3).c2
  cases g3 : isE x true with
  | true =>
    have G3 := Lib.hid g3
    clear g3
    go_wp2
    refine bodyPost_ret (v := .agg #[.int .i64 x.op, .int .i64 x.num, .slice a' x.args.length c']) (by simp [results, Tryd.results88, go_sem, r0, r1, r2]) rfl ?_
    rw [show E = _ from (HEQ.out.trans (by unfold oneE; rw [simple_quant (by omega), nthE_one, if_pos (.inl G3.out)]))]
    exact .mk (set3_below _ _ _ (ext_trans eb tb3) (by omega)) (set3_exprU _ _ _ (xF.ext tb3) (fun hc => by have := hc.2; omega) (fun b hc => .inl hc.1))
  | false =>
    have G3 := Lib.hid g3
    clear g3
    go_wp2_with fail
    refine (refIs_calls (xF.ext tb3) false).mono ?_
    rintro _ w4 ⟨_, rfl, hb4, rfl⟩
    have tb4 := ext_trans tb3 hb4
    clear x0 x1 x2 r0 r1 r2 qr0 qr1 qr2
    obtain ⟨x0, x1, x2⟩ := (rE.ext tb4).three
    obtain ⟨r0, r1, r2⟩ := (rR.ext tb4).three
    have qr0 := (rR.ext tb4).free 0
    have qr1 := (rR.ext tb4).free 1
    have qr2 := (rR.ext tb4).free 2
    clear f0 f1 f2
    have f0 := (hel.ext tb4).c0
    have f1 := (hel.ext tb4).c1
    have f2 := (hel.ext tb4).c2
    cases g4 : isE x false with
    | true =>
      have G4 := Lib.hid g4
      clear g4
      go_wp2
      refine bodyPost_ret (v := .agg #[.int .i64 x.op, .int .i64 x.num, .slice a' x.args.length c']) (by simp [results, Tryd.results88, go_sem, r0, r1, r2]) rfl ?_
      rw [show E = _ from (HEQ.out.trans (by unfold oneE; rw [simple_quant (by omega), nthE_one, if_pos (.inr G4.out)]))]
      exact .mk (set3_below _ _ _ (ext_trans eb tb4) (by omega)) (set3_exprU _ _ _ (xF.ext tb4) (fun hc => by have := hc.2; omega) (fun b hc => .inl hc.1))
    | false =>
      have G4 := Lib.hid g4
      clear g4
      go_wp2
      refine bodyPost_ret (v := .agg #[.int .i64 14, .int .i64 0, .slice a 1 cap]) (by simp [results, Tryd.results88, go_sem, r0, r1, r2]) rfl ?_
      rw [show E = _ from (HEQ.out.trans (by unfold oneE; rw [simple_quant (by omega), nthE_one, if_neg (by rw [G3.out, G4.out]; simp)]))]
      exact .mk (set3_below _ _ _ (ext_trans eb tb4) (by omega)) (set3_exprU _ _ _ (xE.ext tb4) (fun hc => by have := hc.2; omega) (fun b hc => .inl hc.1))

set_option maxRecDepth 100000 in
set_option maxHeartbeats 4000000 in
theorem refSimple_count15 {S : Nat → Prop} {w : World} {x : Ex} {v : Value} (h : ExprV S w (oneE 15 x) v) :
    Calls Tryd.prog 88 #[v] w (Post w fun W' r => ExprV (fun b => S b ∨ w.heap.size ≤ b) W' (simpleE (oneE 15 x)) r) := by
  obtain ⟨a, cap, b, off, a', c', rfl, hel⟩ := h.bound.one
  obtain ⟨E, hE0⟩ : ∃ E, E = simpleE (oneE 15 x) := ⟨_, rfl⟩
  rw [← hE0]
  have HEQ := Lib.hid hE0
  clear hE0
  obtain ⟨w0, hw0⟩ : ∃ w0, w0 = (w.alloc (.cells #[.int .i64 15, .int .i64 0, .slice a 1 cap] 24)).alloc (.cells #[.int .i64 0, .int .i64 0, .slice none 0 0] 24) := ⟨_, rfl⟩
  have e0 : Below w.heap.size w w0 := by rw [hw0]; exact ext_alloc' (ext_alloc w _) _
  have rE : Row w0 w.heap.size 24 [.int .i64 15, .int .i64 0, .slice a 1 cap] := by rw [hw0]; exact (row_new w [.int .i64 15, .int .i64 0, .slice a 1 cap] 24).alloc _
  have rR : Row w0 (w.heap.size + 1) 24 [.int .i64 0, .int .i64 0, .slice none 0 0] := by
    have r2 := row_new (w.alloc (.cells #[.int .i64 15, .int .i64 0, .slice a 1 cap] 24)) [.int .i64 0, .int .i64 0, .slice none 0 0] 24
    rw [World.size_alloc] at r2
    rw [hw0]
    exact r2
  have hEb := h.bound
  have xE := hEb.ext e0
  have eb := e0
  have hel := hel.ext e0
  clear h
  have q := hel.idx
  have s0 := e0.size
  obtain ⟨x0, x1, x2⟩ := rE.three
  obtain ⟨r0, r1, r2⟩ := rR.three
  have qr0 := rR.free 0
  have qr1 := rR.free 1
  have qr2 := rR.free 2
  have f0 := hel.c0
  have f1 := hel.c1
  have f2 := hel.c2
  have hl := rE.lt
  have hl2 := rR.lt
  have xF : ExprV (fun b => S b ∧ b < w.heap.size) w0 x _ := hel.ex
  go_enter Tryd.func88, Tryd.ntmps88
  go_upto_region 1 with fail
  rw [← hw0]
  clear hw0
  go_wp2_with fail
  refine (refIs_calls xF false).mono ?_
  rintro _ w3 ⟨_, rfl, hb3, rfl⟩
  have tb3 := hb3
  clear x0 x1 x2 r0 r1 r2 qr0 qr1 qr2
  obtain ⟨x0, x1, x2⟩ := (rE.ext tb3).three
  obtain ⟨r0, r1, r2⟩ := (rR.ext tb3).three
  have qr0 := (rR.ext tb3).free 0
  have qr1 := (rR.ext tb3).free 1
  have qr2 := (rR.ext tb3).free 2
  clear f0 f1 f2
  have f0 := (hel.ext tb3).c0
  have f1 := (hel.ext tb3).c1
  have f2 := (hel.ext tb3).c2
  cases g3 : isE x false with
  | true =>
    have G3 := Lib.hid g3
    clear g3
    go_wp2_with fail
    refine (refNum_calls _ 0).mono ?_
    rintro _ w4 ⟨_, rfl, hb4, rfl⟩
    have tb4 := ext_trans tb3 hb4
    have x9 := ExprV.nilargs (fun b => w.heap.size + 2 ≤ b) w4 (op := 0) (num := 0) (by unfold WF; omega) (by unfold WF; omega)
    clear x0 x1 x2 r0 r1 r2 qr0 qr1 qr2
    obtain ⟨x0, x1, x2⟩ := (rE.ext tb4).three
    obtain ⟨r0, r1, r2⟩ := (rR.ext tb4).three
    have qr0 := (rR.ext tb4).free 0
    have qr1 := (rR.ext tb4).free 1
    have qr2 := (rR.ext tb4).free 2
    go_wp2
    refine bodyPost_ret (v := .agg #[.int .i64 0, .int .i64 0, .slice none 0 0]) (by simp [results, Tryd.results88, go_sem, r0, r1, r2]) rfl ?_
    rw [show E = _ from (HEQ.out.trans (by unfold oneE; rw [simple_count, nthE_one, if_pos G3.out]; try rfl))]
    exact .mk (set3_below _ _ _ (ext_trans eb tb4) (by omega)) (set3_exprU _ _ _ x9 (fun hc => by omega) (fun b hc => .inr (by omega)))
  | false =>
    have G3 := Lib.hid g3
    clear g3
    go_wp2
    refine bodyPost_ret (v := .agg #[.int .i64 15, .int .i64 0, .slice a 1 cap]) (by simp [results, Tryd.results88, go_sem, r0, r1, r2]) rfl ?_
    rw [show E = _ from (HEQ.out.trans (by unfold oneE; rw [simple_count, nthE_one, if_neg (by rw [G3.out]; simp)]))]
    exact .mk (set3_below _ _ _ (ext_trans eb tb3) (by omega)) (set3_exprU _ _ _ (xE.ext tb3) (fun hc => by have := hc.2; omega) (fun b hc => .inl hc.1))

end Go.Proofs.YtifkkajgcekafaaDoor
