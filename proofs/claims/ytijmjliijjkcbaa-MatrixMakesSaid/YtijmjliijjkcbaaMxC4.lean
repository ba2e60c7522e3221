/- The reference: errors of two matrices, equality, size. -/
import Derived.Test.YtijmjliijjkcbaaMxC3
namespace Go.Proofs.Ytijmjliijjkcbaa
set_option linter.unusedVariables false
open Go.RowKit
attribute [local go_sem ↓] Go.wp_at_zero Go.wp_at_succ

set_option maxRecDepth 100000 in
set_option maxHeartbeats 1000000 in
theorem refBoth_calls {S S' : Nat → Prop} {w : World} {va vb : Value} {a b : Mx} (ha : MatV S w va a) (hb : MatV S' w vb b) :
    Calls Try.prog 45 #[va, vb] w (Post w fun _ r => r = .int .i64 (bothM a b)) := by
  obtain ⟨ra, rfl, la⟩ := ha
  obtain ⟨rb, rfl, lb⟩ := hb
  have hE : ∀ (x y : Obj), Below w.heap.size w ((w.alloc x).alloc y) := fun x y => ext_alloc' (ext_alloc w x) y
  have r0 := row_new (w.alloc (.cells #[.int .i64 a.cols, ra] 24)) [.int .i64 b.cols, rb] 24
  have ex := hE (.cells #[.int .i64 a.cols, ra] 24) (.cells #[.int .i64 b.cols, rb] 24)
  have KA := Lib.hid (refCheck_calls (v := .agg #[.int .i64 a.cols, ra]) (m := a) ⟨ra, rfl, la.ext ex⟩)
  clear hE
  go_enter Try.func45, Try.ntmps45
  go_wp2_with fail
  refine KA.out.mono ?_
  rintro _ w1 ⟨_, rfl, hb1, rfl⟩
  have hx1 := ext_trans ex hb1
  have r1 := r0.ext hb1
  rw [World.size_alloc] at r1
  obtain ⟨q0, q1⟩ := r1.two
  by_cases h1 : checkM a = 0
  · have e1 : (checkM a != 0) = false := by simp [h1]
    have R := Lib.hid (bothM_ok (b := b) h1)
    have KB := Lib.hid (refCheck_calls (v := .agg #[.int .i64 b.cols, rb]) (m := b) ⟨rb, rfl, lb.ext hx1⟩)
    clear h1
    go_wp2_with fail
    refine KB.out.mono ?_
    rintro _ w2 ⟨_, rfl, hb2, rfl⟩
    go_wp2
    go_ret
    exact .mk (ext_trans hx1 hb2) (int_eq R.out.symm)
  · have e1 : (checkM a != 0) = true := by simp [h1]
    have R := Lib.hid (bothM_err (b := b) h1)
    clear h1
    go_wp2
    go_ret
    exact .mk hx1 (int_eq R.out.symm)

set_option maxRecDepth 100000 in
theorem sameVector_quiet {S S' : Nat → Prop} {w : World} {v1 v2 : Value} {l1 l2 : List Int} (h1 : Ints S w v1 l1) (h2 : Ints S' w v2 l2) :
    Calls Try.prog 53 #[v1, v2] w (QuietP w (.bool (decide (l1 = l2)))) := by
  obtain ⟨a1, cap1, rfl, ha1, _, hm1, hc1, _⟩ := h1
  obtain ⟨a2, cap2, rfl, ha2, _, _, hc2, _⟩ := h2
  unfold maxLen at hm1
  obtain ⟨i0, hi, hz0, hz1, hz2⟩ := info_parts info_int
  have hix1 := Lib.hid (idx_one Try.underlying38 hi hz1 ha1)
  have hix2 := Lib.hid (idx_one Try.underlying38 hi hz1 ha2)
  clear hi hz0 hz1 hz2
  by_cases hlen : l1.length = l2.length
  · have hne : ((l1.length : Int) != l2.length) = false := by simp [hlen]
    have HL := Lib.hid hlen
    clear hlen
    go_enter Try.func53, Try.ntmps53
    go_wp2
    go_loopw [5] (fun i wr => ∃ k : Nat, k ≤ l1.length ∧ i = .int .i64 k ∧ (∃ m, wr = w.drewN m) ∧ Hid (l1.take k = l2.take k)) (fun i _ => l1.length - (intOf i).toNat)
    case atStart => exact ⟨0, by omega, rfl, ⟨0, rfl⟩, Lib.hid rfl⟩
    case round =>
      obtain ⟨k, hk, rfl, ⟨m, rfl⟩, H⟩ := hrel
      by_cases hlt : k < l1.length
      · have hlt2 : k < l2.length := by have := HL.out; omega
        have q1 := hix1.out k hlt
        have q2 := hix2.out k hlt2
        have p1 := hc1 k hlt
        have p2 := hc2 k hlt2
        clear hc1 hc2
        by_cases he : nth l1 k = nth l2 k
        · have he' : (nth l1 k != nth l2 k) = false := by simp [he]
          have HE := Lib.hid he
          clear he
          go_wp2
          go_quiet (fail)
          go_wp2
          go_roundw
          case rel => exact ⟨k + 1, by omega, by go_num, ⟨_, rfl⟩, Lib.hid (take_eq_step hlt hlt2 H.out HE.out)⟩
          case measure => simp [intOf]; omega
        · have he' : (nth l1 k != nth l2 k) = true := by simp [he]
          go_wp2
          go_quiet (fail)
          go_wp2
          go_ret
          rw [World.drewN_drewN]
          exact .of (bool_eq (decide_eq_false (fun (e : l1 = l2) => he (by rw [e]))).symm) _
      · go_wp2
        go_ret
        refine .of (bool_eq ?_) _
        have := H.out
        have h2 := HL.out
        rw [List.take_of_length_le (by omega), List.take_of_length_le (by omega)] at this
        exact (decide_eq_true this).symm
  · have hne : ((l1.length : Int) != l2.length) = true := by simp; omega
    go_enter Try.func53, Try.ntmps53
    go_wp2
    go_ret
    exact .of (bool_eq (decide_eq_false (fun (e : l1 = l2) => hlen (by rw [e]))).symm) 0

theorem take_eq_stepL {l1 l2 : List (List Int)} {k : Nat} (hk1 : k < l1.length) (hk2 : k < l2.length) (h : l1.take k = l2.take k) (e : nthL l1 k = nthL l2 k) : l1.take (k + 1) = l2.take (k + 1) := by
  rw [take_nthL hk1, take_nthL hk2, h, e]
def sameM (a b : Mx) : Bool := decide (a.cols = b.cols) && decide (a.rows = b.rows)
theorem sameM_iff {a b : Mx} : sameM a b = true ↔ a = b := by
  obtain ⟨ac, ar⟩ := a
  obtain ⟨bc, br⟩ := b
  simp [sameM]

set_option maxRecDepth 100000 in
set_option maxHeartbeats 2000000 in
theorem same_calls {S S' : Nat → Prop} {w : World} {va vb : Value} {a b : Mx} (ha : MatV S w va a) (hb : MatV S' w vb b) :
    Calls Try.prog 22 #[va, vb] w (Post w fun _ r => r = .bool (sameM a b)) := by
  obtain ⟨ac, al⟩ := a
  obtain ⟨bc, bl⟩ := b
  obtain ⟨ra, rfl, la⟩ := ha
  obtain ⟨rb, rfl, lb⟩ := hb
  obtain ⟨aa, acap, rfl, aad, al1, alm⟩ := la.form
  obtain ⟨ba, bcap, rfl, bad, bl1, blm⟩ := lb.form
  dsimp only at la lb al1 bl1 aad bad ⊢
  unfold maxLen at alm blm
  obtain ⟨i, hi, hz1, hz2, hz3⟩ := info_parts info_ints
  have HQ := Lib.hid (idx_one Try.underlying22 hi hz2 aad)
  have HP := Lib.hid (idx_one Try.underlying22 hi hz2 bad)
  clear hi hz1 hz2 hz3
  have ex : Below w.heap.size w ((w.alloc (.cells #[.int .i64 ac, .slice aa al.length acap] 24)).alloc (.cells #[.int .i64 bc, .slice ba bl.length bcap] 24)) := ext_alloc' (ext_alloc w _) _
  by_cases hc : ¬ ac = bc
  · have e1 : (ac != bc) = true := by simp [hc]
    have R : Hid (sameM ⟨ac, al⟩ ⟨bc, bl⟩ = false) := Lib.hid (by simp [sameM, hc])
    clear hc
    go_enter Try.func22, Try.ntmps22
    go_wp2
    go_ret
    exact .mk ex (bool_eq R.out.symm)
  have hc := Classical.not_not.1 hc
  have e1 : (ac != bc) = false := by simp [hc]
  have HC := Lib.hid hc
  clear hc
  by_cases hlen : ¬ al.length = bl.length
  · have e2 : ((al.length : Int) != bl.length) = true := by simp; omega
    have R : Hid (sameM ⟨ac, al⟩ ⟨bc, bl⟩ = false) := Lib.hid (by simp [sameM]; intro _ h; exact hlen (by rw [h]))
    clear hlen
    go_enter Try.func22, Try.ntmps22
    go_wp2
    go_ret
    exact .mk ex (bool_eq R.out.symm)
  have hlen := Classical.not_not.1 hlen
  have e2 : ((al.length : Int) != bl.length) = false := by simp [hlen]
  have HL := Lib.hid hlen
  clear hlen
  obtain ⟨R, hR⟩ : ∃ R, R = sameM ⟨ac, al⟩ ⟨bc, bl⟩ := ⟨_, rfl⟩
  have HRb : Hid (R = decide (al = bl)) := Lib.hid (by rw [hR]; simp [sameM, HC.out])
  rw [← hR]
  clear hR
  have r0 := (row_new w [.int .i64 ac, .slice aa al.length acap] 24).alloc (.cells #[.int .i64 bc, .slice ba bl.length bcap] 24)
  have r1 := row_new (w.alloc (.cells #[.int .i64 ac, .slice aa al.length acap] 24)) [.int .i64 bc, .slice ba bl.length bcap] 24
  rw [World.size_alloc] at r1
  go_enter Try.func22, Try.ntmps22
  go_wp2
  go_loopw [5] (fun i wr => ∃ k : Nat, k ≤ al.length ∧ i = .int .i64 k ∧ Below w.heap.size w wr ∧ Row wr w.heap.size 24 [.int .i64 ac, .slice aa al.length acap] ∧ Row wr (w.heap.size + 1) 24 [.int .i64 bc, .slice ba bl.length bcap] ∧ Hid (al.take k = bl.take k)) (fun i _ => al.length - (intOf i).toNat)
  case atStart => exact ⟨0, Nat.zero_le _, rfl, ex, r0, r1, Lib.hid rfl⟩
  case round =>
    obtain ⟨k, hk, rfl, hb, hr0, hr1, H⟩ := hrel
    obtain ⟨q0, q1⟩ := hr0.two
    obtain ⟨q2, q3⟩ := hr1.two
    by_cases hlt : k < al.length
    · have hlt2 : k < bl.length := by have := HL.out; omega
      have qa := HQ.out k hlt
      have qb := HP.out k hlt2
      obtain ⟨u, cu, iu⟩ := la.at hb hlt
      obtain ⟨v, cv, iv⟩ := lb.at hb hlt2
      have HS := Lib.hid (fun n => sameVector_quiet (iu.drewN n) (iv.drewN n))
      by_cases he : nthL al k = nthL bl k
      · have d1 : decide (nthL al k = nthL bl k) = true := decide_eq_true he
        have HE := Lib.hid he
        clear he
        go_wp2_with fail
        go_quiet ((go_at_call 53; exact quiet_calls (HS.out _)))
        go_wp2
        go_roundw
        case rel => exact ⟨k + 1, by omega, by go_num, ext_drewN hb _, hr0.ext (drewN_below _ _ _), hr1.ext (drewN_below _ _ _), Lib.hid (take_eq_stepL hlt hlt2 H.out HE.out)⟩
        case measure => simp [intOf]; omega
      · have d1 : decide (nthL al k = nthL bl k) = false := decide_eq_false he
        have HR : Hid (R = false) := Lib.hid (by rw [HRb.out]; exact decide_eq_false fun e => he (by rw [e]))
        clear he
        go_wp2_with fail
        go_quiet ((go_at_call 53; exact quiet_calls (HS.out _)))
        go_wp2
        go_ret
        exact .mk (ext_drewN hb _) (bool_eq HR.out.symm)
    · have HR : Hid (R = true) := Lib.hid (by
        have := H.out
        have h2 := HL.out
        rw [List.take_of_length_le (by omega), List.take_of_length_le (by omega)] at this
        rw [HRb.out]; exact decide_eq_true this)
      go_wp2
      go_ret
      exact .mk hb (bool_eq HR.out.symm)
end Go.Proofs.Ytijmjliijjkcbaa
