/- Contracts of the library's functions that PartitionCovers calls. -/
import Derived.Test.YtnmbiibchajehaaSlices
import Derived.Test.YtnmbiibchajehaaCoverMath
namespace Go.Proofs.Ytnmbiibchajehaa
set_option linter.unusedVariables false
open Go.RowKit

theorem isNaN_quiet (w : World) (x : Int) : Calls Try.prog 57 #[.int .i64 x] w (QuietP w (.bool false)) := by
  go_enter Try.func57, Try.ntmps57
  go_wp2
  go_ret
  exact .of (bool_eq (by simp)) 0

set_option maxRecDepth 100000 in
theorem less_quiet (w : World) (x y : Int) : Calls Try.prog 53 #[.int .i64 x, .int .i64 y] w (QuietP w (.bool (decide (x < y)))) := by
  go_enter Try.func53, Try.ntmps53
  go_wp2_with fail
  refine (isNaN_quiet _ x).mono ?_
  rintro _ _ ⟨rfl, n, rfl⟩
  go_wp2
  go_ret
  exact .of rfl _

set_option maxRecDepth 100000 in
theorem isSorted_quiet {S : Nat → Prop} {w : World} {v : Value} {l : List Int} (h : Ints S w v l) (hs : ∀ i, i + 1 < l.length → ¬ nth l (i + 1) < nth l i) :
    Calls Try.prog 36 #[v] w (QuietP w (.bool true)) := by
  obtain ⟨a, cap, rfl, ha, _, hm, hc, _⟩ := h
  unfold maxLen at hm
  obtain ⟨i0, hi, hz0, hz1, hz2⟩ := info_parts info_int
  have hix := idx_one Try.underlying22 hi hz1 ha
  have HS := Lib.hid hs
  clear hs
  go_enter Try.func36, Try.ntmps36
  go_wp2
  go_loopw [3] (fun i wr => ∃ x : Int, -1 ≤ x ∧ x < l.length ∧ i = .int .i64 x ∧ ∃ m, wr = w.drewN m) (fun i _ => (intOf i).toNat)
  case atStart => exact ⟨(l.length : Int) - 1, by omega, by omega, rfl, 0, rfl⟩
  case round =>
    obtain ⟨x, hx0, hxl, rfl, m, hw⟩ := hrel
    have HW := Lib.hid hw
    clear hw
    by_cases hx : 0 < x
    · obtain ⟨k, rfl⟩ : ∃ k : Nat, x = (k : Int) + 1 := ⟨(x - 1).toNat, by omega⟩
      have q1 : ∀ W, (Instr.indexAt 22 (.slice a l.length cap) (.int .i64 ((k : Int) + 1))).run Try.prog W = .ok (.pointer (some (adr a (k + 1)))) W := hix (k + 1) (by omega)
      have q2 := hix k (by omega)
      have p1 : wr.cell? (adr a (k + 1)) = some (.int .i64 (nth l (k + 1))) := by rw [HW.out]; exact hc (k + 1) (by omega)
      have p2 : wr.cell? (adr a k) = some (.int .i64 (nth l k)) := by rw [HW.out]; exact hc k (by omega)
      have hd : decide (nth l (k + 1) < nth l k) = false := by simp; have := HS.out k (by omega); omega
      have HC := Lib.hid (fun n => less_quiet (wr.drewN n) (nth l (k + 1)) (nth l k))
      rw [hd] at HC
      have z1 : IntKind.i64.wrap ((k : Int) + 1 - 1) = k := by rw [IntWalk.i64_in _ (by omega)]; omega
      clear hd hix hc
      go_wp2
      go_quiet ((go_at_call 53; exact quiet_calls (HC.out _)))
      go_wp2
      go_roundw
      case rel => exact ⟨k, by omega, by omega, by first | rfl | (congr 1), m + nq, by rw [HW.out, World.drewN_drewN]⟩
      case measure => simp [intOf]; try omega
    · go_wp2
      go_ret
      rw [HW.out]
      exact .of rfl _

set_option maxRecDepth 100000 in
theorem index_all {w : World} {g n : Nat} (h : Row w g 4 (List.replicate n (.bool true))) (hn : n ≤ 65536) :
    Calls Try.prog 54 #[.slice (some ⟨g, 0, none⟩) n n, .bool false] w (Post w fun _ r => r = .int .i64 (-1)) := by
  go_enter Try.func54, Try.ntmps54
  go_wp2
  go_loop [8] (fun i => ∃ k : Nat, k ≤ n ∧ i = .int .i64 k) (fun i => n - (intOf i).toNat)
  case atStart => exact ⟨0, by omega, rfl⟩
  case round =>
    obtain ⟨k, hk, rfl⟩ := hrel
    by_cases hlt : k < n
    · have c := h.cell (j := k) (u := .bool true) (by simp [hlt])
      go_wp2
      go_round
      case rel => exact ⟨k + 1, by omega, by go_num⟩
      case measure => simp [intOf]; omega
    · go_wp2
      go_ret
      exact .same rfl

set_option maxRecDepth 100000 in
theorem contains_all {w : World} {g n : Nat} (h : Row w g 4 (List.replicate n (.bool true))) (hn : n ≤ 65536) :
    Calls Try.prog 37 #[.slice (some ⟨g, 0, none⟩) n n, .bool false] w (Post w fun _ r => r = .bool false) := by
  go_enter Try.func37, Try.ntmps37
  go_wp2_with fail
  refine (index_all h hn).mono ?_
  rintro _ w1 ⟨_, rfl, hb1, rfl⟩
  go_wp2
  go_ret
  exact .mk hb1 (bool_eq (by decide))
end Go.Proofs.Ytnmbiibchajehaa
