/- The image of a set under a permutation. -/
import Derived.Test.YtmlgbaogkbfklaaDoorGrR
namespace Go.Proofs.YtmlgbaogkbfklaaDoor
set_option linter.unusedVariables false
open Go.RowKit
attribute [local go_sem ↓] Go.wp_at_zero Go.wp_at_succ

def imgTo (pl : List Nat) (s : Nat) : Nat → Nat
  | 0 => 0
  | k + 1 => imgTo pl s k ||| (if s.testBit k then 2 ^ pl.getD k 0 else 0)
theorem imgTo_lt {pl : List Nat} (H : PermN pl) (s : Nat) : ∀ k, k ≤ pl.length → imgTo pl s k < 32
  | 0, _ => by unfold imgTo; decide
  | k + 1, hk => by
    unfold imgTo
    refine Nat.or_lt_two_pow (n := 5) (imgTo_lt H s k (by omega)) ?_
    split
    · have h1 : pl.getD k 0 = pl[k] := by simp [show k < pl.length by omega]
      have := H.lt _ (List.getElem_mem (show k < pl.length by omega))
      have := H.le
      rw [h1]
      exact Nat.pow_lt_pow_right (by decide) (by omega)
    · decide
theorem bit_val (a p : Nat) : bits .and .i64 ((a : Int) / 2 ^ p) 1 = if a.testBit p then 1 else 0 := by
  have h1 : (BitVec.ofInt 64 1).toNat = 2 ^ 1 - 1 := by decide
  have h2 : ((a : Int) / 2 ^ p) = ((a / 2 ^ p : Nat) : Int) := by simp
  have key : bits .and .i64 ((a / 2 ^ p : Nat) : Int) 1 = ((a / 2 ^ p % 2 : Nat) : Int) := by
    show IntKind.i64.wrap ((BitVec.ofInt 64 ((a / 2 ^ p : Nat) : Int) &&& BitVec.ofInt 64 1).toNat : Nat) = _
    rw [BitVec.toNat_and, h1, Nat.and_two_pow_sub_one_eq_mod, BitVec.ofInt_natCast, BitVec.toNat_ofNat, IntKind.wrap_i64]
    omega
  rw [h2, key, Nat.testBit_eq_decide_div_mod_eq]
  rcases Nat.mod_two_eq_zero_or_one (a / 2 ^ p) with e | e <;> rw [e] <;> rfl
set_option maxRecDepth 100000 in
set_option maxHeartbeats 4000000 in
theorem set_calls {S : Nat → Prop} {w : World} {v : Value} {pl : List Nat} (H : PermN pl) (hv : Ints S w v (permI pl)) {s : Nat} (hs : s < 2 ^ pl.length) :
    Calls Tryd.prog 16 #[v, .int .i64 s] w (Post w fun _ r => r = .tuple #[.int .i64 (imgTo pl s pl.length), .int .i64 0]) := by
  have K := Lib.hid (permCheck_calls H hv)
  have n1 := H.pos
  have n5 := H.le
  obtain ⟨l, hl⟩ : ∃ l, l = permI pl := ⟨_, rfl⟩
  have hll : l.length = pl.length := by rw [hl]; simp
  have HST : Hid (∀ k, k < l.length → ∃ m : Nat, m < l.length ∧ nth l k = (m : Int) ∧ imgTo pl s (k + 1) = imgTo pl s k ||| (if s.testBit k then 2 ^ m else 0)) := Lib.hid fun k hk => by
    have hk2 : k < pl.length := by omega
    exact ⟨pl[k], by rw [hll]; exact H.lt _ (List.getElem_mem hk2), by rw [nth_eq hk]; simp [hl], by show imgTo pl s k ||| _ = _; simp [hk2]⟩
  have HLT : Hid (∀ k, k ≤ l.length → imgTo pl s k < 32) := Lib.hid fun k hk => imgTo_lt H s k (by omega)
  have hs5 : s < 32 := Nat.lt_of_lt_of_le hs (pow_small n5).1
  rw [← hl] at hv
  rw [← hll] at n1 n5 hs ⊢
  have h2n : wrap64 ((2 : Int) ^ l.length) = ((2 ^ l.length : Nat) : Int) := by
    have : l.length = 1 ∨ l.length = 2 ∨ l.length = 3 ∨ l.length = 4 ∨ l.length = 5 := by omega
    rcases this with e | e | e | e | e <;> rw [e] <;> decide +kernel
  have dge : (s : Int) < wrap64 ((2 : Int) ^ l.length) := by rw [h2n]; omega
  have dge2 : decide (wrap64 ((2 : Int) ^ l.length) ≤ (s : Int)) = false := by simp; exact dge
  obtain ⟨a, cap, rfl, ad, l1, lm⟩ := hv.form
  unfold maxLen at lm
  obtain ⟨i0, hi, hz0, hz1, hz2⟩ := info_parts info_int
  have HQ := Lib.hid (idx_one Tryd.underlying33 hi hz1 ad)
  have HC := Lib.hid hv
  clear hv hi hz0 hz1 hz2 ad hl H hll h2n dge hs
  go_enter Tryd.func16, Tryd.ntmps16
  go_wp2_with fail
  refine K.out.mono ?_
  rintro _ w1 ⟨_, rfl, hb1, rfl⟩
  clear K
  go_wp2
  go_loopw [7, 8, 9, 26] (fun o _ _ i wr => ∃ k z : Nat, k ≤ l.length ∧ i = .int .i64 k ∧ o = .int .i64 z ∧ Hid (z = imgTo pl s k) ∧ Below w.heap.size w wr) (fun _ _ _ i _ => l.length - (intOf i).toNat)
  case atStart => exact ⟨0, 0, Nat.zero_le _, rfl, rfl, Lib.hid rfl, hb1⟩
  case round =>
    clear dge2
    obtain ⟨k, z, hk, rfl, rfl, HZK, hb⟩ := hrel
    by_cases hlt : k < l.length
    · have q := HQ.out k hlt
      have ck : wr.cell? (adr a k) = some (.int .i64 (nth l k)) := by
        obtain ⟨a0, cap0, e, _, _, _, hc, _⟩ := HC.out.ext hb
        simp only [Value.slice.injEq] at e
        obtain ⟨rfl, _, _⟩ := e
        exact hc k hlt
      obtain ⟨m, hml, hm, hms⟩ := HST.out k hlt
      rw [hm] at ck
      have hzl : z < 32 := by rw [HZK.out]; exact HLT.out k hk
      have hm5 : m < 5 := by omega
      have hp := (pow_small (p := m) (by omega)).1
      have HBV := Lib.hid (bit_val s k)
      have HW := Lib.hid (wrap_pow hm5)
      have HO := Lib.hid (or_nat (a := z) (b := 2 ^ m) (by omega) (by omega))
      have HO0 := Lib.hid (or_nat (a := z) (b := 0) (by omega) (by omega))
      have HMS := Lib.hid hms
      clear hm hms hp
      go_wp2
      go_roundw
      case rel =>
        refine ⟨k + 1, imgTo pl s (k + 1), by omega, by go_num, int_eq ?_, Lib.hid rfl, hb⟩
        rw [HBV.out, HMS.out, ← HZK.out]
        by_cases hbt : s.testBit k = true
        · rw [if_pos hbt, if_pos hbt, Int.one_mul, HW.out, HO.out]
        · rw [if_neg hbt, if_neg hbt, Int.zero_mul]
          exact (congrArg (bits .or .i64 (z : Int)) (by decide +kernel : wrap64 0 = ((0 : Nat) : Int))).trans HO0.out
      case measure => simp [intOf]; omega
    · obtain rfl : k = l.length := by omega
      go_wp2
      go_ret2
      exact .mk hb (by rw [HZK.out]; rfl)
end Go.Proofs.YtmlgbaogkbfklaaDoor
