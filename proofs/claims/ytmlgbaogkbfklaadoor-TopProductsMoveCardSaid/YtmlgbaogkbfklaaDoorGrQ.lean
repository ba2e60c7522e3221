/- Kernels, inverse permutations. -/
import Derived.Test.YtmlgbaogkbfklaaDoorGrP
namespace Go.Proofs.YtmlgbaogkbfklaaDoor
set_option linter.unusedVariables false
open Go.RowKit
attribute [local go_sem ↓] Go.wp_at_zero Go.wp_at_succ

/-- What the first k processes of n all hear. -/
def kerTo (n : Nat) (h : Nat → Nat) : Nat → Nat
  | 0 => 2 ^ n - 1
  | k + 1 => kerTo n h k &&& h k
theorem kerTo_lt {n : Nat} (hn : n ≤ 5) (h : Nat → Nat) : ∀ k, kerTo n h k < 32
  | 0 => by have := pow_small hn; unfold kerTo; omega
  | k + 1 => Nat.lt_of_le_of_lt Nat.and_le_left (kerTo_lt hn h k)
theorem testBit_ker (n : Nat) (h : Nat → Nat) (i : Nat) : ∀ k, (kerTo n h k).testBit i = true ↔ i < n ∧ ∀ p, p < k → (h p).testBit i = true := by
  intro k
  induction k with
  | zero => unfold kerTo; rw [Nat.testBit_two_pow_sub_one]; simp
  | succ k ih =>
    unfold kerTo
    rw [Nat.testBit_and, Bool.and_eq_true, ih]
    constructor
    · rintro ⟨⟨h1, h2⟩, h3⟩
      refine ⟨h1, fun p hp => ?_⟩
      by_cases e : p = k
      · subst e; exact h3
      · exact h2 p (by omega)
    · rintro ⟨h1, h2⟩
      exact ⟨⟨h1, fun p hp => h2 p (by omega)⟩, h2 k (by omega)⟩
set_option maxRecDepth 100000 in
set_option maxHeartbeats 2000000 in
theorem kernel1_calls (w : World) {n : Nat} {h : Nat → Nat} (H : GOK n h) : Calls Tryd.prog 37 #[hV n h] w (Post w fun _ r => r = .int .i64 (kerTo n h n)) := by
  have n5 := H.le
  have HS := Lib.hid fun p hp => H.small (p := p) hp
  have HL := Lib.hid (kerTo_lt n5 h)
  have K := Lib.hid fun W => ((full_quiet W n5).mono fun _ _ h => h.take)
  unfold hV gV
  have ex := ext_alloc w (.cells #[.int .i64 n, .int .i64 (h 0), .int .i64 (h 1), .int .i64 (h 2), .int .i64 (h 3), .int .i64 (h 4)] 24)
  have rg := Row.graph w n fun p => (h p : Int)
  have e0 : ((2 ^ n : Nat) - 1 : Int) = ((kerTo n h 0 : Nat) : Int) := by
    have := (pow_small n5).2
    show _ = ((2 ^ n - 1 : Nat) : Int)
    omega
  rw [e0] at K
  obtain ⟨z0, hz0⟩ : ∃ z, z = kerTo n h 0 := ⟨_, rfl⟩
  rw [← hz0] at K
  have HZ := Lib.hid hz0
  obtain ⟨a0, _⟩ := rg.six
  clear H e0 hz0
  go_enter Tryd.func37, Tryd.ntmps37
  go_wp2_with fail
  refine (K.out _).mono ?_
  rintro _ w1 ⟨_, rfl, hq1, rfl⟩
  have R := rg.ext hq1.ext
  have ex1 := ext_trans ex hq1.ext
  clear a0 K rg ex hq1
  obtain ⟨a0, _⟩ := R.six
  go_wp2
  go_loopw [3, 4, 10] (fun o _ i wr => ∃ k z : Nat, k ≤ n ∧ i = .int .i64 k ∧ o = .int .i64 z ∧ Hid (z = kerTo n h k) ∧ QW w1 wr) (fun _ _ i _ => n - (intOf i).toNat)
  case atStart => exact ⟨0, z0, Nat.zero_le _, rfl, rfl, HZ, .refl _⟩
  case round =>
    clear a0
    obtain ⟨k, z, hk, rfl, rfl, HZK, hQ⟩ := hrel
    by_cases hlt : k < n
    · have q2 := idx_five w.heap.size (show k < 5 by omega)
      have c2 := (R.ext hQ.ext).hear (show k < 5 by omega)
      have hzl : z < 32 := by rw [HZK.out]; exact HL.out k
      have hhl := HS.out k (by omega)
      have HO := Lib.hid (and_nat (a := z) (b := h k) (by omega) (by omega))
      have HN : Hid (z &&& h k = kerTo n h (k + 1)) := Lib.hid (by rw [HZK.out]; rfl)
      go_wp2
      go_roundw
      case rel => exact ⟨k + 1, z &&& h k, by omega, by go_num, int_eq HO.out, HN, hQ⟩
      case measure => simp [intOf]; omega
    · obtain rfl : k = n := by omega
      have hx := ext_trans ex1 hQ.ext
      go_wp2
      go_ret
      exact .mk hx (by rw [HZK.out]; rfl)
set_option maxRecDepth 100000 in
theorem kernel_calls (w : World) {n : Nat} {h : Nat → Nat} (H : GOK n h) : Calls Tryd.prog 15 #[hV n h] w (Post w fun _ r => r = .tuple #[.int .i64 (kerTo n h n), .int .i64 0]) := by
  have K1 := Lib.hid fun W => gcheck_calls W H
  have K2 := Lib.hid fun W => kernel1_calls W H
  unfold hV gV at K1 K2 ⊢
  have ex := ext_alloc w (.cells #[.int .i64 n, .int .i64 (h 0), .int .i64 (h 1), .int .i64 (h 2), .int .i64 (h 3), .int .i64 (h 4)] 24)
  have R := Row.graph w n fun p => (h p : Int)
  obtain ⟨z, hz⟩ : ∃ z, z = kerTo n h n := ⟨_, rfl⟩
  rw [← hz] at K2 ⊢
  clear hz H
  obtain ⟨a0, a1, a2, a3, a4, a5⟩ := R.six
  go_enter Tryd.func15, Tryd.ntmps15
  go_wp2_with fail
  refine (K1.out _).mono ?_
  rintro _ w1 ⟨_, rfl, hb1, rfl⟩
  clear a0 a1 a2 a3 a4 a5
  have R := R.ext hb1
  have ex := ext_trans ex hb1
  obtain ⟨a0, a1, a2, a3, a4, a5⟩ := R.six
  go_wp2_with fail
  refine (K2.out _).mono ?_
  rintro _ w2 ⟨_, rfl, hb2, rfl⟩
  have ex := ext_trans ex hb2
  clear a0 a1 a2 a3 a4 a5
  go_wp2
  go_ret2
  exact .mk ex rfl
end Go.Proofs.YtmlgbaogkbfklaaDoor
