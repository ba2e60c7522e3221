/- Sizes by the reference, and whether an expression is small. -/
import Derived.Test.YthogcbffnbhalaaDoorExOps
namespace Go.Proofs.YthogcbffnbhalaaDoor
set_option linter.unusedVariables false
open Go.RowKit

set_option maxRecDepth 100000 in
set_option maxHeartbeats 1000000 in
theorem refSize_calls {S : Nat → Prop} {w : World} {e : Ex} {v : Value} (h : ExprV S w e v) : ∀ W, Below w.heap.size w W → sizeE e ≤ 65536 →
    Calls Tryd.prog 49 #[v] W (Post W fun _ r => r = .tuple #[.int .i64 (sizeE e), .int .i64 (depthE e)]) := by
  induction h with
  | mk wo wn ha hl hm hc hx ih =>
    rename_i op num xs a cap us
    intro W hW hS
    obtain ⟨i0, hi, hz⟩ := info_e
    have hix := idx_three Tryd.underlying22 hi hz ha
    have hlen := length_le_size xs
    simp only [sizeE] at hS
    go_enter Tryd.func49, Tryd.ntmps49
    go_wp2
    go_loopw [4, 5, 6] (fun n d i wr => ∃ k : Nat, k ≤ xs.length ∧ i = .int .i64 k ∧ n = .int .i64 (1 + sizeL (xs.take k) : Nat) ∧ d = .int .i64 (depthL (xs.take k) : Nat) ∧ Below W.heap.size W wr ∧
      Row wr W.heap.size 24 [.int .i64 op, .int .i64 num, .slice a xs.length cap]) (fun _ _ i _ => xs.length - (intOf i).toNat)
    case atStart => exact ⟨0, by omega, rfl, rfl, rfl, ext_alloc W _, row_new _ _ _⟩
    case round =>
      obtain ⟨k, hk, rfl, rfl, rfl, hb, hR⟩ := hrel
      have cr := hR.cell (j := 2) rfl
      by_cases hlt : k < xs.length
      · have q := hix k hlt
        have hwb := ext_trans hW hb
        obtain ⟨a', cap', e, c0, c1, c2⟩ := elem_parts ha hc hx hlt hwb
        have ik := ih k hlt
        rw [e] at ik
        have hsz := sizeL_nth hlt
        go_wp2_with fail
        refine (ik _ hwb (by omega)).mono ?_
        rintro _ w2 ⟨_, rfl, hb2, rfl⟩
        have hdp := depthE_le_size (nthE xs k)
        have hdl := depthL_le (xs.take k)
        have hsk := sizeL_take_le xs k
        have HT := Lib.hid (take_nthE hlt)
        have hR2 := hR.ext hb2
        by_cases hmx : depthL (xs.take k) < depthE (nthE xs k)
        · have hmi : ((depthL (xs.take k) : Nat) : Int) < (depthE (nthE xs k) : Nat) := by omega
          go_wp2
          go_roundw
          case rel =>
            refine ⟨k + 1, by omega, by go_num, ?_, ?_, ext_trans hb hb2, hR2⟩
            · rw [HT.out, sizeL_snoc]; go_num
            · rw [HT.out, depthL_snoc, Nat.max_eq_right (by omega)]
          case measure => simp [intOf]; omega
        · have hmi : ¬ ((depthL (xs.take k) : Nat) : Int) < (depthE (nthE xs k) : Nat) := by omega
          go_wp2
          go_roundw
          case rel =>
            refine ⟨k + 1, by omega, by go_num, ?_, ?_, ext_trans hb hb2, hR2⟩
            · rw [HT.out, sizeL_snoc]; go_num
            · rw [HT.out, depthL_snoc, Nat.max_eq_left (by omega)]
          case measure => simp [intOf]; omega
      · have hk' : k = xs.length := by omega
        subst hk'
        rw [List.take_length]
        have hdl := depthL_le xs
        go_wp2
        go_ret2
        exact .mk hb (by simp [sizeE, depthE])

/-- The number of nodes, at most a limit. -/
def countN (e : Ex) (L : Nat) : Nat := min (sizeE e) L

set_option maxRecDepth 100000 in
set_option maxHeartbeats 1000000 in
theorem count_calls {S : Nat → Prop} {w : World} {e : Ex} {v : Value} (h : ExprV S w e v) : ∀ W (L : Nat), Below w.heap.size w W → 1 ≤ L → L ≤ 140 →
    Calls Tryd.prog 29 #[v, .int .i64 L] W (Post W fun _ r => r = .int .i64 (countN e L)) := by
  induction h with
  | mk wo wn ha hl hm hc hx ih =>
    rename_i op num xs a cap us
    intro W L hW hL hL2
    unfold maxLen at hm
    obtain ⟨i0, hi, hz⟩ := info_e
    have hix := idx_three Tryd.underlying22 hi hz ha
    go_enter Tryd.func29, Tryd.ntmps29
    go_wp2
    go_loopw [5, 6] (fun n i wr => ∃ k : Nat, k ≤ xs.length ∧ i = .int .i64 k ∧ n = .int .i64 (min (1 + sizeL (xs.take k)) L : Nat) ∧ Below W.heap.size W wr ∧
      Row wr W.heap.size 24 [.int .i64 op, .int .i64 num, .slice a xs.length cap]) (fun _ i _ => xs.length - (intOf i).toNat)
    case atStart => exact ⟨0, by omega, rfl, by simp [sizeL]; omega, ext_alloc W _, row_new _ _ _⟩
    case round =>
      obtain ⟨k, hk, rfl, rfl, hb, hR⟩ := hrel
      have cr := hR.cell (j := 2) rfl
      obtain ⟨m, hm2⟩ : ∃ m, m = min (1 + sizeL (xs.take k)) L := ⟨_, rfl⟩
      rw [← hm2]
      have hmL : m ≤ L := by omega
      have HM := Lib.hid hm2
      by_cases hlt : k < xs.length
      · by_cases hlim : m < L
        · have q := hix k hlt
          have hwb := ext_trans hW hb
          obtain ⟨a', cap', e, c0, c1, c2⟩ := elem_parts ha hc hx hlt hwb
          have ik := ih k hlt
          rw [e] at ik
          have g1 : decide (k < xs.length) = true := by simpa using hlt
          have g2 : decide (m < L) = true := by simpa using hlim
          have hsub : ((L : Int) - m) = ((L - m : Nat) : Int) := by omega
          clear hm2
          go_wp2_with fail
          refine (ik _ (L - m) hwb (by omega) (by omega)).mono ?_
          rintro _ w2 ⟨_, rfl, hb2, rfl⟩
          have HT := Lib.hid (take_nthE hlt)
          have hR2 := hR.ext hb2
          have hcn : countN (nthE xs k) (L - m) ≤ 140 := by unfold countN; omega
          have HC := Lib.hid (show countN (nthE xs k) (L - m) = min (sizeE (nthE xs k)) (L - m) from rfl)
          clear hsub
          go_wp2
          go_roundw
          case rel =>
            refine ⟨k + 1, by omega, by go_num, ?_, ext_trans hb hb2, hR2⟩
            have h1 := HM.out
            have h2 := HC.out
            rw [HT.out, sizeL_snoc]
            refine int_eq ?_
            omega
          case measure => simp [intOf]; omega
        · have g1 : decide (k < xs.length) = true := by simpa using hlt
          have g2 : decide (m < L) = false := by simpa using hlim
          clear hm2
          go_wp2
          go_ret
          refine .mk hb (int_eq ?_)
          have h1 := HM.out
          have := sizeL_take_le xs k
          unfold countN
          simp only [sizeE]
          omega
      · have g1 : decide (k < xs.length) = false := by simpa using hlt
        clear hm2
        go_wp2
        go_ret
        refine .mk hb (int_eq ?_)
        have h1 := HM.out
        rw [List.take_of_length_le (by omega)] at h1
        unfold countN
        simp only [sizeE]
        omega
end Go.Proofs.YthogcbffnbhalaaDoor

