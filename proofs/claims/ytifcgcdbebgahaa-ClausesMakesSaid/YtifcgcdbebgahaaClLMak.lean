/- The walk of ClausesMakes. Printed by law41.py. -/
import Derived.Test.YtifcgcdbebgahaaClLaw4
namespace Go.Proofs.Ytifcgcdbebgahaa
set_option linter.unusedVariables false
open Go.RowKit
attribute [local go_sem ↓] Go.wp_at_zero Go.wp_at_succ

set_option maxRecDepth 100000 in
set_option maxHeartbeats 8000000 in
theorem walkClausesMakes {w : World} {vm : Value} {m : Mx} (hm : MatV TT w vm m) :
    Calls Try.prog 9 #[vm] w (Post w fun _ r => r = .bool true) := by
  obtain ⟨cols, ll⟩ := m
  obtain ⟨rm, rfl, la⟩ := hm
  obtain ⟨aa, acap, rfl, _⟩ := la.form
  dsimp only at la ⊢
  have hm : MatV TT w (.agg #[.int .i64 cols, .slice aa ll.length acap]) ⟨cols, ll⟩ := ⟨_, rfl, la⟩
  clear la
  have HB := Below.refl w.heap.size w
  go_enter Try.func9, Try.ntmps9
  go_wp2_with fail
  refine (few_calls (S := TT) (S' := TT) (ls := []) (hm.ext (by (repeat (first | exact Below.refl _ _ | refine ext_alloc' ?_ _)))) (.nil _ _)).mono ?_
  rintro _ w1 ⟨_, rfl, hb, rfl⟩
  have hYY := ext_trans (by (repeat (first | exact Below.refl _ _ | refine ext_alloc' ?_ _)) : Below w.heap.size w _) hb
  have R1 : Row w1 (w.heap.size) 24 [.int .i64 cols, .slice aa ll.length acap] := Row.ext (by repeat (first | exact row_at _ _ _ _ (by simp) | refine Row.alloc ?_ _)) hb
  replace hm := hm.ext hYY
  replace HB := ext_trans HB hYY
  clear hYY hb
  cases hf : fewL ⟨cols, ll⟩ [] with
  | false =>
    clear hf
    obtain ⟨R1q0, R1q1⟩ := R1.two
    have R1l := R1.lt
    go_wp2_with fail
    refine (awake_calls _).mono ?_
    rintro _ w2 ⟨_, rfl, hb, rfl⟩
    have hYY := ext_trans (by (repeat (first | exact Below.refl _ _ | refine ext_alloc' ?_ _)) : Below w1.heap.size w1 _) hb
    replace hm := hm.ext hYY
    replace R1 := R1.ext hYY
    replace HB := ext_trans HB hYY
    clear R1q0 R1q1 R1l hYY hb
    go_wp2
    go_ret
    exact .mk HB rfl
  | true =>
  obtain ⟨hfl, hfc⟩ := fewL_true hf
  have HFC := Lib.hid hfc
  have HRL : Hid (sizesS ⟨cols, ll⟩ = 0 → ∀ r ∈ (⟨cols, ll⟩ : Mx).rows, r.length ≤ 100000) := Lib.hid (fun h r hr => by have := (fewC_true HFC.out h).2.2 r hr; omega)
  clear hf hfl hfc
  obtain ⟨⟨c2, l2⟩, e2, hA⟩ : ∃ m2 e2, normalS ⟨cols, ll⟩ = (m2, e2) := ⟨_, _, rfl⟩
  have HA := Lib.hid hA
  clear hA
  obtain ⟨R1q0, R1q1⟩ := R1.two
  have R1l := R1.lt
  go_wp2_with fail
  refine (norm_lit (c := c2) (l := l2) (e := e2) (n := l2.length) (hm.ext (by (repeat (first | exact Below.refl _ _ | refine ext_alloc' ?_ _)))) HRL.out HA.out rfl).mono ?_
  rintro _ w2 ⟨_, rfl, hb, a1, k1, rfl, h1⟩
  have hYY := ext_trans (by (repeat (first | exact Below.refl _ _ | refine ext_alloc' ?_ _)) : Below w1.heap.size w1 _) hb
  replace hm := hm.ext hYY
  replace R1 := R1.ext hYY
  replace HB := ext_trans HB hYY
  clear R1q0 R1q1 R1l hYY hb
  obtain ⟨R1q0, R1q1⟩ := R1.two
  have R1l := R1.lt
  go_wp2_with fail
  refine (rnorm_lit (c := c2) (l := l2) (e := e2) (n := l2.length) (hm.ext (by (repeat (first | exact Below.refl _ _ | refine ext_alloc' ?_ _)))) HRL.out HA.out rfl).mono ?_
  rintro _ w3 ⟨_, rfl, hb, a2, k2, rfl, h2⟩
  have hYY := ext_trans (by (repeat (first | exact Below.refl _ _ | refine ext_alloc' ?_ _)) : Below w2.heap.size w2 _) hb
  have R2 : Row w3 (w2.heap.size) 24 [.int .i64 c2, .slice a1 l2.length k1] := Row.ext (by repeat (first | exact row_at _ _ _ _ (by simp) | refine Row.alloc ?_ _)) hb
  replace hm := hm.ext hYY
  replace h1 := h1.ext hYY
  replace R1 := R1.ext hYY
  replace HB := ext_trans HB hYY
  clear R1q0 R1q1 R1l hYY hb
  have rz := row_new w3 [.int .i64 c2, .slice a2 l2.length k2] 24
  have exz := ext_alloc w3 (.cells #[.int .i64 c2, .slice a2 l2.length k2] 24)
  obtain ⟨wz, hwz⟩ : ∃ wz : World, wz = w3.alloc (.cells #[.int .i64 c2, .slice a2 l2.length k2] 24) := ⟨_, rfl⟩
  go_upto_region 5 with fail
  rw [← hwz] at rz exz ⊢
  obtain ⟨B3, hB3⟩ : ∃ B3, B3 = w3.heap.size := ⟨_, rfl⟩
  obtain ⟨B2, hB2⟩ : ∃ B2, B2 = w2.heap.size := ⟨_, rfl⟩
  rw [← hB3] at rz ⊢
  rw [← hB2] at R2 ⊢
  replace hm := hm.ext exz
  replace h1 := h1.ext exz
  replace h2 := h2.ext exz
  replace R1 := R1.ext exz
  replace R2 := R2.ext exz
  replace HB := ext_trans HB exz
  obtain ⟨v, hv⟩ : ∃ v, v = checkC ⟨cols, ll⟩ := ⟨_, rfl⟩
  have HV := Lib.hid hv.symm
  clear hwz hB3 hB2 exz hv
  have KEEP : Hid (∀ W', Below wz.heap.size wz W' → (fun w' : World => w'.cell? ⟨w.heap.size, 0, none⟩ = some (.int .i64 cols) ∧ w'.cell? ⟨w.heap.size, 1, none⟩ = some (.slice aa ll.length acap) ∧ w'.cell? ⟨B2, 0, none⟩ = some (.int .i64 c2) ∧ w'.cell? ⟨B2, 1, none⟩ = some (.slice a1 l2.length k1) ∧ w'.cell? ⟨B3, 0, none⟩ = some (.int .i64 c2) ∧ w'.cell? ⟨B3, 1, none⟩ = some (.slice a2 l2.length k2)) W') := Lib.hid (fun W' hW' => ⟨(R1.ext hW').two.1, (R1.ext hW').two.2, (R2.ext hW').two.1, (R2.ext hW').two.2, (rz.ext hW').two.1, (rz.ext hW').two.2⟩)
  clear R1 R2 rz
  refine region_E (fun w' : World => w'.cell? ⟨w.heap.size, 0, none⟩ = some (.int .i64 cols) ∧ w'.cell? ⟨w.heap.size, 1, none⟩ = some (.slice aa ll.length acap) ∧ w'.cell? ⟨B2, 0, none⟩ = some (.int .i64 c2) ∧ w'.cell? ⟨B2, 1, none⟩ = some (.slice a1 l2.length k1) ∧ w'.cell? ⟨B3, 0, none⟩ = some (.int .i64 c2) ∧ w'.cell? ⟨B3, 1, none⟩ = some (.slice a2 l2.length k2)) (fun i => false) (by kernel_rfl) ?_ (fun hHeld => ?_)
  · exact KEEP.out _ (drewN_below _ _ 1)
  refine anyE_one 0 rfl (by kernel_rfl) (fun K hK => ?_)
  go_simp; go_at_call 12; refine (awake_calls _).mono ?_; rintro _ y1 ⟨_, rfl, hb1, rfl⟩; have hk1 : Below wz.heap.size wz y1 := ext_trans (drewN_below _ _ 1) hb1
  refine hK.out _ _ (fun _ => KEEP.out _ hk1) (fun hHeld => ?_); replace hHeld := hHeld rfl
  clear hK K
  try simp only [Act.put, List.setIfInBounds_toArray, List.set_cons_zero, List.set_cons_succ]
  refine anyE_take 1 (v := ?_) rfl (by kernel_rfl) (fun _ _ _ h => h) (by rfl) ?hy1 hHeld ?rest1
  case hy1 => (intro w hSw; (try dsimp only at hSw); go_simp; try with_reducible rfl)
  try simp only [Act.put, List.setIfInBounds_toArray, List.set_cons_zero, List.set_cons_succ]
  refine anyE_take 2 (v := ?_) rfl (by kernel_rfl) (fun _ _ _ h => h) (by rfl) ?hy2 hHeld ?rest2
  case hy2 => (intro w hSw; (try dsimp only at hSw); go_simp; try with_reducible rfl)
  try simp only [Act.put, List.setIfInBounds_toArray, List.set_cons_zero, List.set_cons_succ]
  refine anyE_take 4 (v := ?_) rfl (by kernel_rfl) (fun _ _ _ h => h) (by rfl) ?hy4 hHeld ?rest4
  case hy4 => (intro w hSw; (try dsimp only at hSw); go_simp; try with_reducible rfl)
  try simp only [Act.put, List.setIfInBounds_toArray, List.set_cons_zero, List.set_cons_succ]
  refine anyE_one 3 rfl (by kernel_rfl) (fun K hK => ?_)
  go_simp; go_at_call 35; refine (check_calls (hm.ext hk1)).mono ?_; rintro _ y2 ⟨_, rfl, hb2, rfl⟩; have hk2 : Below wz.heap.size wz y2 := ext_trans hk1 hb2; rw [HV.out]
  refine hK.out _ _ (fun _ => KEEP.out _ hk2) (fun hHeld => ?_); replace hHeld := hHeld rfl
  clear hK K
  try simp only [Act.put, List.setIfInBounds_toArray, List.set_cons_zero, List.set_cons_succ]
  refine anyE_one 5 rfl (by kernel_rfl) (fun K hK => ?_)
  go_simp; go_at_call 21; refine (refCheck_calls (hm.ext hk2)).mono ?_; rintro _ y3 ⟨_, rfl, hb3, rfl⟩; have hk3 : Below wz.heap.size wz y3 := ext_trans hk2 hb3; rw [HV.out]
  refine hK.out _ _ (fun _ => KEEP.out _ hk3) (fun hHeld => ?_); replace hHeld := hHeld rfl
  clear hK K
  try simp only [Act.put, List.setIfInBounds_toArray, List.set_cons_zero, List.set_cons_succ]
  refine anyE_take 6 (v := ?_) rfl (by kernel_rfl) (fun _ _ _ h => h) (by rfl) ?hy6 hHeld ?rest6
  case hy6 => (intro w hSw; (try dsimp only at hSw); go_simp; try with_reducible rfl)
  try simp only [Act.put, List.setIfInBounds_toArray, List.set_cons_zero, List.set_cons_succ]
  refine anyE_take 7 (v := ?_) rfl (by kernel_rfl) (fun _ _ _ h => h) (by rfl) ?hy7 hHeld ?rest7
  case hy7 => (intro w hSw; (try dsimp only at hSw); go_simp; try with_reducible rfl)
  try simp only [Act.put, List.setIfInBounds_toArray, List.set_cons_zero, List.set_cons_succ]
  refine anyE_take 8 (v := ?_) rfl (by kernel_rfl) (fun _ _ _ h => h) (by rfl) ?hy8 hHeld ?rest8
  case hy8 => (intro w hSw; (try dsimp only at hSw); go_simp; try with_reducible rfl)
  try simp only [Act.put, List.setIfInBounds_toArray, List.set_cons_zero, List.set_cons_succ]
  refine anyE_take 9 (v := ?_) rfl (by kernel_rfl) (fun _ _ _ h => h) (by rfl) ?hy9 hHeld ?rest9
  case hy9 => (intro w hSw; (try dsimp only at hSw); go_simp; try with_reducible rfl)
  try simp only [Act.put, List.setIfInBounds_toArray, List.set_cons_zero, List.set_cons_succ]
  refine anyE_take 10 (v := ?_) rfl (by kernel_rfl) (fun _ _ _ h => h) (by rfl) ?hy10 hHeld ?rest10
  case hy10 => (intro w hSw; (try dsimp only at hSw); go_simp; try with_reducible rfl)
  try simp only [Act.put, List.setIfInBounds_toArray, List.set_cons_zero, List.set_cons_succ]
  refine anyE_one 11 rfl (by kernel_rfl) (fun K hK => ?_)
  go_simp; go_at_call 17; refine (same_lit (h1.ext hk3) (h2.ext hk3) rfl).mono ?_; rintro _ y4 ⟨_, rfl, hb4, rfl⟩; have hk4 : Below wz.heap.size wz y4 := ext_trans hk3 hb4
  refine hK.out _ _ (fun _ => KEEP.out _ hk4) (fun hHeld => ?_); replace hHeld := hHeld rfl
  clear hK K
  try simp only [Act.put, List.setIfInBounds_toArray, List.set_cons_zero, List.set_cons_succ]
  refine anyE_take 12 (v := ?_) rfl (by kernel_rfl) (fun _ _ _ h => h) (by rfl) ?hy12 hHeld ?rest12
  case hy12 => (intro w hSw; (try dsimp only at hSw); go_simp; try with_reducible rfl)
  try simp only [Act.put, List.setIfInBounds_toArray, List.set_cons_zero, List.set_cons_succ]
  refine anyE_take 13 (v := ?_) rfl (by kernel_rfl) (fun _ _ _ h => h) (by rfl) ?hy13 hHeld ?rest13
  case hy13 => (intro w hSw; (try dsimp only at hSw); go_simp; try with_reducible rfl)
  try simp only [Act.put, List.setIfInBounds_toArray, List.set_cons_zero, List.set_cons_succ]
  refine anyE_take 14 (v := ?_) rfl (by kernel_rfl) (fun _ _ _ h => h) (by rfl) ?hy14 hHeld ?rest14
  case hy14 => (intro w hSw; (try dsimp only at hSw); go_simp; try with_reducible rfl)
  try simp only [Act.put, List.setIfInBounds_toArray, List.set_cons_zero, List.set_cons_succ]
  refine anyE_take 15 (v := ?_) rfl (by kernel_rfl) (fun _ _ _ h => h) (by rfl) ?hy15 hHeld ?rest15
  case hy15 => (intro w hSw; (try dsimp only at hSw); go_simp; try with_reducible rfl)
  try simp only [Act.put, List.setIfInBounds_toArray, List.set_cons_zero, List.set_cons_succ]
  refine anyE_take 16 (v := ?_) rfl (by kernel_rfl) (fun _ _ _ h => h) (by rfl) ?hy16 hHeld ?rest16
  case hy16 => (intro w hSw; (try dsimp only at hSw); go_simp; try with_reducible rfl)
  try simp only [Act.put, List.setIfInBounds_toArray, List.set_cons_zero, List.set_cons_succ]
  refine anyE_take 17 (v := ?_) rfl (by kernel_rfl) (fun _ _ _ h => h) (by rfl) ?hy17 hHeld ?rest17
  case hy17 => (intro w hSw; (try dsimp only at hSw); go_simp; try with_reducible rfl)
  try simp only [Act.put, List.setIfInBounds_toArray, List.set_cons_zero, List.set_cons_succ]
  refine anyE_take 18 (v := ?_) rfl (by kernel_rfl) (fun _ _ _ h => h) (by rfl) ?hy18 hHeld ?rest18
  case hy18 => (intro w hSw; (try dsimp only at hSw); go_simp; try with_reducible rfl)
  try simp only [Act.put, List.setIfInBounds_toArray, List.set_cons_zero, List.set_cons_succ]
  refine anyE_done (by kernel_rfl) ?_ _
  replace HB := ext_trans HB hk4
  clear hHeld
  go_wp2
  go_ret
  exact .mk HB rfl
end Go.Proofs.Ytifcgcdbebgahaa
