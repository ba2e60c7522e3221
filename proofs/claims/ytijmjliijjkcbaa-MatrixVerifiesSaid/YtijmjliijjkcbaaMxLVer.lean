/- The walk of MatrixVerifies. Printed by verl05.py. -/
import Derived.Test.YtijmjliijjkcbaaMxLaw0
import Derived.Test.YtijmjliijjkcbaaMxRefVer
import Derived.Test.YtijmjliijjkcbaaReg
namespace Go.Proofs.Ytijmjliijjkcbaa
set_option linter.unusedVariables false
open Go.RowKit
attribute [local go_sem ↓] Go.wp_at_zero Go.wp_at_succ

set_option maxRecDepth 100000 in
set_option maxHeartbeats 4000000 in
theorem walkMatrixVerifies {Sm Sb Sy : Nat → Prop} {w : World} {va vb vy : Value} {m : Mx} {b y : List Int} (hm : MatV Sm w va m) (hb : Ints Sb w vb b) (hy : Ints Sy w vy y) :
    Calls Try.prog 5 #[va, vb, vy] w (Post w fun _ r => r = .bool true) := by
  obtain ⟨cols, ll⟩ := m
  obtain ⟨ra, rfl, la⟩ := hm
  obtain ⟨aa, acap, rfl, _⟩ := la.form
  dsimp only at la ⊢
  have hm : MatV Sm w (.agg #[.int .i64 cols, .slice aa ll.length acap]) ⟨cols, ll⟩ := ⟨_, rfl, la⟩
  obtain ⟨ba, bcap, rfl, _⟩ := hb.form
  obtain ⟨ya, ycap, rfl, _⟩ := hy.form
  have ex1 := ext_alloc w (.cells #[.int .i64 cols, .slice aa ll.length acap] 24)
  have r0 := row_new w [.int .i64 cols, .slice aa ll.length acap] 24
  have KF := Lib.hid (few1 (hm.ext ex1) (B := w.heap.size + 1) (e := 24) (by simp))
  have ex2 := ext_alloc' ex1 (.cells #[.int .i64 cols, .slice aa ll.length acap] 24)
  have KEEP0 := Lib.hid (r0.ext (ext_alloc _ (.cells #[.int .i64 cols, .slice aa ll.length acap] 24)))
  go_enter Try.func5, Try.ntmps5
  go_wp2_with fail
  refine KF.out.mono ?_
  rintro _ w1 ⟨_, rfl, hb1, rfl⟩
  have R0 := KEEP0.out.ext hb1
  have hx1 := ext_trans ex2 hb1
  have z1 := hx1.size
  have hlt := R0.lt
  have KEEP : Hid (∀ W', Below w1.heap.size w1 W' → (fun w' : World => w'.cell? ⟨w.heap.size, 0, none⟩ = some (.int .i64 cols) ∧ w'.cell? ⟨w.heap.size, 1, none⟩ = some (.slice aa ll.length acap)) W') := Lib.hid (fun W' hW' => (R0.ext hW').two)
  clear KF KEEP0 ex1 ex2 r0 hb1 la R0
  cases hf : fewM ⟨cols, ll⟩ with
  | false =>
    clear hf
    go_wp2_with fail
    refine (awake_calls _).mono ?_
    rintro _ w3 ⟨_, rfl, hb3, rfl⟩
    go_wp2
    go_ret
    exact .mk (ext_trans hx1 hb3) rfl
  | true =>
  clear hf
  by_cases hlb : 40 < b.length
  · have d1 : decide (40 < b.length) = true := decide_eq_true hlb
    go_wp2_with fail
    refine (awake_calls _).mono ?_
    rintro _ w3 ⟨_, rfl, hb3, rfl⟩
    go_wp2
    go_ret
    exact .mk (ext_trans hx1 hb3) rfl
  have d1 : decide (40 < b.length) = false := decide_eq_false hlb
  by_cases hly : 40 < y.length
  · have d2 : decide (40 < y.length) = true := decide_eq_true hly
    go_wp2_with fail
    refine (awake_calls _).mono ?_
    rintro _ w3 ⟨_, rfl, hb3, rfl⟩
    go_wp2
    go_ret
    exact .mk (ext_trans hx1 hb3) rfl
  have d2 : decide (40 < y.length) = false := decide_eq_false hly
  · go_wp2_with fail
    refine region_E (fun w' : World => w'.cell? ⟨w.heap.size, 0, none⟩ = some (.int .i64 cols) ∧ w'.cell? ⟨w.heap.size, 1, none⟩ = some (.slice aa ll.length acap)) (fun i => false) (by kernel_rfl) ?_ (fun hHeld => ?_)
    · exact KEEP.out _ (drewN_below _ _ 1)
    refine anyE_one 0 rfl (by kernel_rfl) (fun K hK => ?_)
    go_simp; go_at_call 15; refine (awake_calls _).mono ?_; rintro _ w3 ⟨_, rfl, hb3, rfl⟩; have hk3 : Below w1.heap.size w1 w3 := ext_trans (drewN_below _ _ 1) hb3; have hx3 := ext_trans hx1 hk3
    refine hK.out _ _ (fun _ => KEEP.out _ hk3) (fun hHeld => ?_); replace hHeld := hHeld rfl
    clear hK K
    try simp only [Act.put, List.setIfInBounds_toArray, List.set_cons_zero, List.set_cons_succ]
    refine anyE_take 1 (v := ?_) rfl (by kernel_rfl) (fun _ _ _ h => h) (by rfl) ?hy1r hHeld ?rest1r
    case hy1r => (intro w hSw; (try dsimp only at hSw); go_simp; try with_reducible rfl)
    try simp only [Act.put, List.setIfInBounds_toArray, List.set_cons_zero, List.set_cons_succ]
    refine anyE_take 2 (v := ?_) rfl (by kernel_rfl) (fun _ _ _ h => h) (by rfl) ?hy2r hHeld ?rest2r
    case hy2r => (intro w hSw; (try dsimp only at hSw); go_simp; try with_reducible rfl)
    try simp only [Act.put, List.setIfInBounds_toArray, List.set_cons_zero, List.set_cons_succ]
    refine anyE_take 3 (v := ?_) rfl (by kernel_rfl) (fun _ _ _ h => h) (by rfl) ?hy3r hHeld ?rest3r
    case hy3r => (intro w hSw; (try dsimp only at hSw); go_simp; try with_reducible rfl)
    try simp only [Act.put, List.setIfInBounds_toArray, List.set_cons_zero, List.set_cons_succ]
    refine anyE_take 4 (v := ?_) rfl (by kernel_rfl) (fun _ _ _ h => h) (by rfl) ?hy4r hHeld ?rest4r
    case hy4r => (intro w hSw; (try dsimp only at hSw); go_simp; try with_reducible rfl)
    try simp only [Act.put, List.setIfInBounds_toArray, List.set_cons_zero, List.set_cons_succ]
    refine anyE_take 6 (v := ?_) rfl (by kernel_rfl) (fun _ _ _ h => h) (by rfl) ?hy6r hHeld ?rest6r
    case hy6r => (intro w hSw; (try dsimp only at hSw); go_simp; try with_reducible rfl)
    try simp only [Act.put, List.setIfInBounds_toArray, List.set_cons_zero, List.set_cons_succ]
    refine anyE_take 7 (v := ?_) rfl (by kernel_rfl) (fun _ _ _ h => h) (by rfl) ?hy7r hHeld ?rest7r
    case hy7r => (intro w hSw; (try dsimp only at hSw); go_simp; try with_reducible rfl)
    try simp only [Act.put, List.setIfInBounds_toArray, List.set_cons_zero, List.set_cons_succ]
    refine anyE_take 8 (v := ?_) rfl (by kernel_rfl) (fun _ _ _ h => h) (by rfl) ?hy8r hHeld ?rest8r
    case hy8r => (intro w hSw; (try dsimp only at hSw); go_simp; try with_reducible rfl)
    try simp only [Act.put, List.setIfInBounds_toArray, List.set_cons_zero, List.set_cons_succ]
    refine anyE_one 5 rfl (by kernel_rfl) (fun K hK => ?_)
    go_simp; go_at_call 27; refine (verify_calls (hm.ext hx3) (hb.ext hx3) (hy.ext hx3)).mono ?_; rintro _ w4 ⟨_, rfl, hb4, rfl⟩; have hk4 := ext_trans hk3 hb4; have hx4 := ext_trans hx1 hk4
    refine hK.out _ _ (fun _ => KEEP.out _ hk4) (fun hHeld => ?_); replace hHeld := hHeld rfl
    clear hK K
    try simp only [Act.put, List.setIfInBounds_toArray, List.set_cons_zero, List.set_cons_succ]
    refine anyE_one 9 rfl (by kernel_rfl) (fun K hK => ?_)
    go_simp; go_at_call 26; refine (refVerify_calls (hm.ext hx4) (hb.ext hx4) (hy.ext hx4)).mono ?_; rintro _ w5 ⟨_, rfl, hb5, rfl⟩; have hk5 := ext_trans hk4 hb5; have hx5 := ext_trans hx1 hk5
    refine hK.out _ _ (fun _ => KEEP.out _ hk5) (fun hHeld => ?_); replace hHeld := hHeld rfl
    clear hK K
    try simp only [Act.put, List.setIfInBounds_toArray, List.set_cons_zero, List.set_cons_succ]
    refine anyE_take 10 (v := ?_) rfl (by kernel_rfl) (fun _ _ _ h => h) (by rfl) ?hy10r hHeld ?rest10r
    case hy10r => (intro w hSw; (try dsimp only at hSw); go_simp; try with_reducible rfl)
    try simp only [Act.put, List.setIfInBounds_toArray, List.set_cons_zero, List.set_cons_succ]
    refine anyE_take 11 (v := ?_) rfl (by kernel_rfl) (fun _ _ _ h => h) (by rfl) ?hy11r hHeld ?rest11r
    case hy11r => (intro w hSw; (try dsimp only at hSw); go_simp; try with_reducible rfl)
    try simp only [Act.put, List.setIfInBounds_toArray, List.set_cons_zero, List.set_cons_succ]
    refine anyE_take 12 (v := ?_) rfl (by kernel_rfl) (fun _ _ _ h => h) (by rfl) ?hy12r hHeld ?rest12r
    case hy12r => (intro w hSw; (try dsimp only at hSw); go_simp; try with_reducible rfl)
    try simp only [Act.put, List.setIfInBounds_toArray, List.set_cons_zero, List.set_cons_succ]
    refine anyE_done (by kernel_rfl) ?_ _
    go_wp2
    go_ret
    exact .mk hx5 rfl
end Go.Proofs.Ytijmjliijjkcbaa
