/- What an expression uses, on both sides. -/
import Derived.Test.YthogcbffnbhalaaDoorExKind
import Derived.Laws.BitsAllLaws
import Derived.Laws.BitsLemmas
namespace Go.Proofs.YthogcbffnbhalaaDoor
set_option linter.unusedVariables false
open Go.RowKit

theorem ofInt_i64 (a : Nat) (ha : a < 9223372036854775808) : (BitVec.ofInt 64 (a : Int)).toNat = a := by
  rw [BitVec.ofInt_natCast, BitVec.toNat_ofNat]; exact Nat.mod_eq_of_lt (by omega)
theorem i64_or_nat (a b : Nat) (ha : a < 9223372036854775808) (hb : b < 9223372036854775808) : bits .or .i64 (a : Int) (b : Int) = ((a ||| b : Nat) : Int) := by
  have hx : a ||| b < 2 ^ 63 := Nat.or_lt_two_pow (by omega) (by omega)
  show IntKind.i64.wrap ((BitVec.ofInt 64 (a : Int) ||| BitVec.ofInt 64 (b : Int)).toNat : Int) = _
  rw [BitVec.toNat_or, ofInt_i64 a ha, ofInt_i64 b hb, IntKind.wrap_i64]
  omega
theorem ownUse_lt (op : Int) : ownUse op < 8 := by unfold ownUse; split <;> (try split) <;> (try split) <;> omega
mutual
theorem usesE_lt : ∀ e : Ex, usesE e < 8
  | .node op _ xs => by rw [usesE]; exact Nat.or_lt_two_pow (n := 3) (ownUse_lt op) (usesL_lt xs)
theorem usesL_lt : ∀ l : List Ex, usesL l < 8
  | [] => by simp [usesL]
  | e :: es => by rw [usesL]; exact Nat.or_lt_two_pow (n := 3) (usesE_lt e) (usesL_lt es)
end

end Go.Proofs.YthogcbffnbhalaaDoor

