/- Scenes in memory; the reference's operations on numbers. -/
import Derived.Test.YthogcbffnbhalaaDoorExWf
import Derived.Test.YthogcbffnbhalaaDoorExSame2
namespace Go.Proofs.YthogcbffnbhalaaDoor
set_option linter.unusedVariables false
open Go.RowKit

def hearsL (h0 h1 h2 h3 h4 : Int) : List Int := [h0, h1, h2, h3, h4]
/-- The cells of a scene. -/
def scCells (n : Int) (iv ov : Value) (h0 h1 h2 h3 h4 : Int) (vv : Value) : List Value :=
  [.int .i64 n, iv, ov, .int .i64 h0, .int .i64 h1, .int .i64 h2, .int .i64 h3, .int .i64 h4, vv]
def scAgg (n : Int) (iv ov : Value) (h0 h1 h2 h3 h4 : Int) (vv : Value) : Value :=
  .agg #[.int .i64 n, iv, ov, .int .i64 h0, .int .i64 h1, .int .i64 h2, .int .i64 h3, .int .i64 h4, vv]

theorem flag_quiet (w : World) (b : Bool) : Calls Tryd.prog 51 #[.bool b] w (QuietP w (.int .i64 (flag b))) := by
  cases b with
  | true =>
    go_enter Tryd.func51, Tryd.ntmps51
    go_wp2
    go_ret
    exact .of rfl 0
  | false =>
    go_enter Tryd.func51, Tryd.ntmps51
    go_wp2
    go_ret
    exact .of rfl 0

theorem truth_quiet (w : World) (b : Bool) : Calls Tryd.prog 46 #[.bool b] w (QuietP w (.int .i64 (flag b))) := by
  cases b with
  | true =>
    go_enter Tryd.func46, Tryd.ntmps46
    go_wp2
    go_ret
    exact .of rfl 0
  | false =>
    go_enter Tryd.func46, Tryd.ntmps46
    go_wp2
    go_ret
    exact .of rfl 0

theorem i64_and1 (n : Int) : bits .and .i64 n 1 = n % 2 := by
  have h1 : (BitVec.ofInt 64 1).toNat = 2 ^ 1 - 1 := by decide
  have key : (BitVec.ofInt 64 n &&& BitVec.ofInt 64 1).toNat = (n % ((2 ^ 64 : Nat) : Int)).toNat % 2 ^ 1 := by
    rw [BitVec.toNat_and, BitVec.toNat_ofInt, h1, Nat.and_two_pow_sub_one_eq_mod]
  show IntKind.i64.wrap ((BitVec.ofInt 64 n &&& BitVec.ofInt 64 1).toNat : Nat) = n % 2
  rw [key, IntKind.wrap_i64]
  omega
theorem bit_test (h b : Int) : (bits .and .i64 (h / 2 ^ b.toNat) 1 == 1) = bitS h b := by
  rw [i64_and1]; rfl

set_option maxRecDepth 100000 in
set_option maxHeartbeats 1000000 in
theorem refTwo_hears (w : World) (a b n : Int) (iv ov : Value) (h0 h1 h2 h3 h4 : Int) (vv : Value) (hn : 0 ≤ n) (hn5 : n ≤ 5) :
    Calls Tryd.prog 54 #[.int .i64 4, .int .i64 a, .int .i64 b, scAgg n iv ov h0 h1 h2 h3 h4 vv] w (Post w fun _ r => r = .int .i64 (flag (decide (0 ≤ a) && decide (a < n) && decide (0 ≤ b) && decide (b < n) && bitS (nth [h0, h1, h2, h3, h4] a.toNat) b))) := by
  unfold scAgg
  have ex1 := ext_alloc w (.cells #[.int .i64 n, iv, ov, .int .i64 h0, .int .i64 h1, .int .i64 h2, .int .i64 h3, .int .i64 h4, vv] 39)
  by_cases a0 : 0 ≤ a
  · have da0 : decide (0 ≤ a) = true := by simpa using a0
    by_cases a1 : a < n
    · have da1 : decide (a < n) = true := by simpa using a1
      by_cases b0 : 0 ≤ b
      · have db0 : decide (0 ≤ b) = true := by simpa using b0
        by_cases b1 : b < n
        · have db1 : decide (b < n) = true := by simpa using b1
          have ha5 : a = 0 ∨ a = 1 ∨ a = 2 ∨ a = 3 ∨ a = 4 := by omega
          clear da0
          rcases ha5 with rfl | rfl | rfl | rfl | rfl
          · go_enter Tryd.func54, Tryd.ntmps54
            go_wp2_with fail
            refine ((flag_quiet _ _).mono fun _ _ h => h.post).mono ?_
            rintro _ w1 ⟨_, rfl, hb1, rfl⟩
            go_wp2
            go_ret
            exact .mk (ext_trans ex1 hb1) (int_eq (by rw [bit_test h0, da1, db0, db1]; rfl))
          · go_enter Tryd.func54, Tryd.ntmps54
            go_wp2_with fail
            refine ((flag_quiet _ _).mono fun _ _ h => h.post).mono ?_
            rintro _ w1 ⟨_, rfl, hb1, rfl⟩
            go_wp2
            go_ret
            exact .mk (ext_trans ex1 hb1) (int_eq (by rw [bit_test h1, da1, db0, db1]; rfl))
          · go_enter Tryd.func54, Tryd.ntmps54
            go_wp2_with fail
            refine ((flag_quiet _ _).mono fun _ _ h => h.post).mono ?_
            rintro _ w1 ⟨_, rfl, hb1, rfl⟩
            go_wp2
            go_ret
            exact .mk (ext_trans ex1 hb1) (int_eq (by rw [bit_test h2, da1, db0, db1]; rfl))
          · go_enter Tryd.func54, Tryd.ntmps54
            go_wp2_with fail
            refine ((flag_quiet _ _).mono fun _ _ h => h.post).mono ?_
            rintro _ w1 ⟨_, rfl, hb1, rfl⟩
            go_wp2
            go_ret
            exact .mk (ext_trans ex1 hb1) (int_eq (by rw [bit_test h3, da1, db0, db1]; rfl))
          · go_enter Tryd.func54, Tryd.ntmps54
            go_wp2_with fail
            refine ((flag_quiet _ _).mono fun _ _ h => h.post).mono ?_
            rintro _ w1 ⟨_, rfl, hb1, rfl⟩
            go_wp2
            go_ret
            exact .mk (ext_trans ex1 hb1) (int_eq (by rw [bit_test h4, da1, db0, db1]; rfl))
        · have db1 : decide (b < n) = false := by simpa using b1
          go_enter Tryd.func54, Tryd.ntmps54
          go_wp2_with fail
          refine ((flag_quiet _ _).mono fun _ _ h => h.post).mono ?_
          rintro _ w1 ⟨_, rfl, hb1, rfl⟩
          go_wp2
          go_ret
          exact .mk (ext_trans ex1 hb1) (int_eq (by simp [*]))
      · have db0 : decide (0 ≤ b) = false := by simpa using b0
        go_enter Tryd.func54, Tryd.ntmps54
        go_wp2_with fail
        refine ((flag_quiet _ _).mono fun _ _ h => h.post).mono ?_
        rintro _ w1 ⟨_, rfl, hb1, rfl⟩
        go_wp2
        go_ret
        exact .mk (ext_trans ex1 hb1) (int_eq (by simp [*]))
    · have da1 : decide (a < n) = false := by simpa using a1
      go_enter Tryd.func54, Tryd.ntmps54
      go_wp2_with fail
      refine ((flag_quiet _ _).mono fun _ _ h => h.post).mono ?_
      rintro _ w1 ⟨_, rfl, hb1, rfl⟩
      go_wp2
      go_ret
      exact .mk (ext_trans ex1 hb1) (int_eq (by simp [*]))
  · have da0 : decide (0 ≤ a) = false := by simpa using a0
    go_enter Tryd.func54, Tryd.ntmps54
    go_wp2_with fail
    refine ((flag_quiet _ _).mono fun _ _ h => h.post).mono ?_
    rintro _ w1 ⟨_, rfl, hb1, rfl⟩
    go_wp2
    go_ret
    exact .mk (ext_trans ex1 hb1) (int_eq (by simp [*]))

end Go.Proofs.YthogcbffnbhalaaDoor

