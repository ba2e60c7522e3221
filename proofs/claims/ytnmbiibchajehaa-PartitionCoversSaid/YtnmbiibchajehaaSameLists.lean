/- The contract of the reference's comparison of lists of lists. -/
import Derived.Test.YtnmbiibchajehaaLists
import Derived.Test.YtnmbiibchajehaaSame
import Derived.Test.YtnmbiibchajehaaClasses
namespace Go.Proofs.Ytnmbiibchajehaa
set_option linter.unusedVariables false
open Go.RowKit

theorem take_eq_stepL {l1 l2 : List (List Int)} {k : Nat} (hk1 : k < l1.length) (hk2 : k < l2.length) (h : l1.take k = l2.take k) (e : nthL l1 k = nthL l2 k) : l1.take (k + 1) = l2.take (k + 1) := by
  rw [take_nthL hk1, take_nthL hk2, h, e]

set_option maxRecDepth 100000 in
theorem sameLists_quiet {S S' : Nat → Prop} {w : World} {v1 v2 : Value} {l1 l2 : List (List Int)} (h1 : Lists S w v1 l1) (h2 : Lists S' w v2 l2) :
    Calls Try.prog 24 #[v1, v2] w (QuietP w (.bool (decide (l1 = l2)))) := by
  obtain ⟨a1, cap1, rfl, ha1, hl1, hm1, hc1⟩ := h1
  obtain ⟨a2, cap2, rfl, ha2, _, _, hc2⟩ := h2
  unfold maxLen at hm1
  obtain ⟨i0, hi, hz0, hz1, hz2⟩ := info_parts info_slice
  have hix1 := idx_one Try.underlying32 hi hz1 ha1
  have hix2 := idx_one Try.underlying32 hi hz1 ha2
  clear hi hz0 hz1 hz2
  by_cases hlen : l1.length = l2.length
  · have hne : ((l1.length : Int) != l2.length) = false := by simp [hlen]
    have HL := Lib.hid hlen
    clear hlen
    go_enter Try.func24, Try.ntmps24
    go_wp2
    go_loopw [5] (fun i wr => ∃ k : Nat, k ≤ l1.length ∧ i = .int .i64 k ∧ (∃ m, wr = w.drewN m) ∧ l1.take k = l2.take k) (fun i _ => l1.length - (intOf i).toNat)
    case atStart => exact ⟨0, by omega, rfl, ⟨0, rfl⟩, rfl⟩
    case round =>
      obtain ⟨k, hk, rfl, ⟨m, hw⟩, hrel⟩ := hrel
      have H := Lib.hid hrel
      have HW := Lib.hid hw
      clear hrel hw
      by_cases hlt : k < l1.length
      · have hlt2 : k < l2.length := by have := HL.out; omega
        have q1 := hix1 k hlt
        have q2 := hix2 k hlt2
        obtain ⟨u1, p1, i1⟩ := hc1 k hlt
        obtain ⟨u2, p2, i2⟩ := hc2 k hlt2
        have p1' : wr.cell? (adr a1 k) = some u1 := by rw [HW.out]; exact p1
        have p2' : wr.cell? (adr a2 k) = some u2 := by rw [HW.out]; exact p2
        have i1' : Ints S wr u1 (nthL l1 k) := by rw [HW.out]; exact i1.drewN _
        have i2' : Ints S' wr u2 (nthL l2 k) := by rw [HW.out]; exact i2.drewN _
        clear hix1 hix2 hc1 hc2 p1 p2 i1 i2
        by_cases he : nthL l1 k = nthL l2 k
        · have hd : decide (nthL l1 k = nthL l2 k) = true := by simp [he]
          have HE := Lib.hid he
          clear he
          have HC := Lib.hid (fun n => sameInts_quiet (i1'.drewN n) (i2'.drewN n))
          rw [hd] at HC
          clear hd
          go_wp2
          go_quiet ((go_at_call 29; exact quiet_calls (HC.out _)))
          go_wp2
          go_roundw
          case rel => exact ⟨k + 1, by omega, by go_num, ⟨m + nq, by rw [HW.out, World.drewN_drewN]⟩, take_eq_stepL hlt hlt2 H.out HE.out⟩
          case measure => simp [intOf]; omega
        · have hd : decide (nthL l1 k = nthL l2 k) = false := by simp [he]
          have HC := Lib.hid (fun n => sameInts_quiet (i1'.drewN n) (i2'.drewN n))
          rw [hd] at HC
          clear hd
          go_wp2
          go_quiet ((go_at_call 29; exact quiet_calls (HC.out _)))
          go_wp2
          go_ret
          rw [HW.out, World.drewN_drewN]
          exact .of (bool_eq (decide_eq_false (fun (e : l1 = l2) => he (by rw [e]))).symm) _
      · go_wp2
        go_ret
        rw [HW.out]
        refine .of (bool_eq ?_) _
        have := H.out
        have h2 := HL.out
        rw [List.take_of_length_le (by omega), List.take_of_length_le (by omega)] at this
        exact (decide_eq_true this).symm
  · have hne : ((l1.length : Int) != l2.length) = true := by simp; omega
    go_enter Try.func24, Try.ntmps24
    go_wp2
    go_ret
    exact .of (bool_eq (decide_eq_false (fun (e : l1 = l2) => hlen (by rw [e]))).symm) 0

theorem sameLists_calls {S S' : Nat → Prop} {w : World} {v1 v2 : Value} {l1 l2 : List (List Int)} (h1 : Lists S w v1 l1) (h2 : Lists S' w v2 l2) :
    Calls Try.prog 24 #[v1, v2] w (Post w fun _ r => r = .bool (decide (l1 = l2))) := (sameLists_quiet h1 h2).mono fun _ _ h => h.post
end Go.Proofs.Ytnmbiibchajehaa
