/- Contracts of the library's functions on slices. -/
import Derived.Test.YtmlgbaogkbfklaaDoorBase
namespace Go.Proofs.YtmlgbaogkbfklaaDoor
set_option linter.unusedVariables false
open Go.RowKit

theorem info_int : (Tryd.prog.info? 3).map (fun i => (i.zero, i.size, i.bytes)) = some (some (.int .i64 0), 1, 8) := by kernel_rfl

theorem take_eq_step {l1 l2 : List Int} {k : Nat} (hk1 : k < l1.length) (hk2 : k < l2.length) (h : l1.take k = l2.take k) (e : nth l1 k = nth l2 k) : l1.take (k + 1) = l2.take (k + 1) := by
  rw [take_nth hk1, take_nth hk2, h, e]

set_option maxRecDepth 100000 in
theorem equal_quiet {S S' : Nat → Prop} {w : World} {v1 v2 : Value} {l1 l2 : List Int} (h1 : Ints S w v1 l1) (h2 : Ints S' w v2 l2) :
    Calls Tryd.prog 23 #[v1, v2] w (QuietP w (.bool (decide (l1 = l2)))) := by
  obtain ⟨a1, cap1, rfl, ha1, _, hm1, hc1, _⟩ := h1
  obtain ⟨a2, cap2, rfl, ha2, _, _, hc2, _⟩ := h2
  unfold maxLen at hm1
  obtain ⟨i0, hi, hz0, hz1, hz2⟩ := info_parts info_int
  have hix1 := idx_one Tryd.underlying33 hi hz1 ha1
  have hix2 := idx_one Tryd.underlying33 hi hz1 ha2
  clear hi hz0 hz1 hz2
  by_cases hlen : l1.length = l2.length
  · have hne : ((l1.length : Int) != l2.length) = false := by simp [hlen]
    have HL := Lib.hid hlen
    clear hlen
    go_enter Tryd.func23, Tryd.ntmps23
    go_wp2
    go_loopw [13] (fun i wr => ∃ k : Nat, k ≤ l1.length ∧ i = .int .i64 k ∧ (∃ m, wr = w.drewN m) ∧ l1.take k = l2.take k) (fun i _ => l1.length - (intOf i).toNat)
    case atStart => exact ⟨0, by omega, rfl, ⟨0, rfl⟩, rfl⟩
    case round =>
      obtain ⟨k, hk, rfl, ⟨m, rfl⟩, hrel⟩ := hrel
      have H := Lib.hid hrel
      clear hrel
      by_cases hlt : k < l1.length
      · have hlt2 : k < l2.length := by have := HL.out; omega
        have q1 := hix1 k hlt
        have q2 := hix2 k hlt2
        have p1 := hc1 k hlt
        have p2 := hc2 k hlt2
        clear hix1 hix2 hc1 hc2
        by_cases he : nth l1 k = nth l2 k
        · have he' : (nth l1 k != nth l2 k) = false := by simp [he]
          have HE := Lib.hid he
          clear he
          go_wp2
          go_quiet (fail)
          go_wp2
          go_roundw
          case rel => exact ⟨k + 1, by omega, by go_num, ⟨_, rfl⟩, take_eq_step hlt hlt2 H.out HE.out⟩
          case measure => simp [intOf]; omega
        · have he' : (nth l1 k != nth l2 k) = true := by simp [he]
          go_wp2
          go_quiet (fail)
          go_wp2
          go_ret
          rw [World.drewN_drewN]
          exact .of (bool_eq (decide_eq_false (fun (e : l1 = l2) => he (by rw [e]))).symm) _
      · go_wp2
        go_ret
        refine .of (bool_eq ?_) _
        have := H.out
        have h2 := HL.out
        rw [List.take_of_length_le (by omega), List.take_of_length_le (by omega)] at this
        exact (decide_eq_true this).symm
  · have hne : ((l1.length : Int) != l2.length) = true := by simp; omega
    go_enter Tryd.func23, Tryd.ntmps23
    go_wp2
    go_ret
    exact .of (bool_eq (decide_eq_false (fun (e : l1 = l2) => hlen (by rw [e]))).symm) 0

theorem equal_calls {S S' : Nat → Prop} {w : World} {v1 v2 : Value} {l1 l2 : List Int} (h1 : Ints S w v1 l1) (h2 : Ints S' w v2 l2) :
    Calls Tryd.prog 23 #[v1, v2] w (Post w fun _ r => r = .bool (decide (l1 = l2))) := (equal_quiet h1 h2).mono fun _ _ h => h.post
end Go.Proofs.YtmlgbaogkbfklaaDoor
