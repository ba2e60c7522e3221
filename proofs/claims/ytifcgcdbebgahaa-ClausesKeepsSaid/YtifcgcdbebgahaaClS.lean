/- slices.Contains; the program's Subsumes. -/
import Derived.Test.YtifcgcdbebgahaaClR
namespace Go.Proofs.Ytifcgcdbebgahaa
set_option linter.unusedVariables false
open Go.RowKit
attribute [local go_sem ↓] Go.wp_at_zero Go.wp_at_succ

set_option maxRecDepth 100000 in
set_option maxHeartbeats 2000000 in
theorem index_quiet {S : Nat → Prop} {w : World} {va : Value} {l : List Int} (ha : Ints S w va l) (x : Int) :
    Calls Try.prog 60 #[va, .int .i64 x] w (QuietP w (.int .i64 (idxI (fun y => x == y) l))) := by
  obtain ⟨a, cap, rfl, ad, l1, lm⟩ := ha.form
  unfold maxLen at lm
  obtain ⟨i0, hi, hz0, hz1, hz2⟩ := info_parts info_int
  have HQA := Lib.hid (idx_one Try.underlying25 hi hz1 ad)
  have HC := Lib.hid (ints_cells0 ha)
  clear hi hz0 hz1 hz2 ha
  go_enter Try.func60, Try.ntmps60
  go_wp2
  go_loopw [8] (fun i wr => ∃ k : Nat, k ≤ l.length ∧ i = .int .i64 k ∧ QW w wr ∧ Hid (∀ j, j < k → (fun y => x == y) (nth l j) = false)) (fun i _ => l.length - (intOf i).toNat)
  case atStart => exact ⟨0, Nat.zero_le _, rfl, .refl _, Lib.hid fun j hj => absurd hj (by omega)⟩
  case round =>
    obtain ⟨k, hk, rfl, hQ, hB⟩ := hrel
    by_cases hlt : k < l.length
    · have q := HQA.out k hlt
      have cu := cells_at ad hQ.ext HC.out k hlt
      obtain ⟨y, hy⟩ : ∃ y, y = nth l k := ⟨_, rfl⟩
      rw [← hy] at cu
      have HY := Lib.hid hy
      clear hy
      by_cases h1 : x = y
      · have e1 : (x == y) = true := by simp [h1]
        have HR := Lib.hid (idxI_hit (p := fun y => x == y) hlt hB.out (by simpa [← HY.out] using h1))
        clear hB h1
        go_wp2
        go_ret
        exact .fin (int_eq HR.out.symm) hQ
      · have e1 : (x == y) = false := by simp [h1]
        have HN : Hid (∀ j, j < k + 1 → (fun y => x == y) (nth l j) = false) := Lib.hid fun j hj => by
          by_cases e : j = k
          · subst e; simpa [← HY.out] using h1
          · exact hB.out j (by omega)
        clear hB h1
        go_wp2
        go_roundw
        case rel => exact ⟨k + 1, by omega, by go_num, hQ, HN⟩
        case measure => simp [intOf]; omega
    · obtain rfl : k = l.length := by omega
      have HR := Lib.hid (idxI_none hB.out)
      clear hB
      go_wp2
      go_ret
      exact .fin (int_eq HR.out.symm) hQ
theorem any_memB {l : List Int} {x : Int} : (l.any fun y => x == y) = memB l x := by
  rw [Bool.eq_iff_iff, List.any_eq_true, memB_iff]
  exact ⟨fun ⟨y, hy, e⟩ => by rw [beq_iff_eq.1 e]; exact hy, fun h => ⟨x, h, by simp⟩⟩
set_option maxRecDepth 100000 in
theorem contains_quiet {S : Nat → Prop} {w : World} {va : Value} {l : List Int} (ha : Ints S w va l) (x : Int) :
    Calls Try.prog 25 #[va, .int .i64 x] w (QuietP w (.bool (memB l x))) := by
  have K := Lib.hid ((index_quiet ha x).mono fun _ _ h => h.take)
  have HI := Lib.hid (idxI_any (p := fun y => x == y) (l := l))
  rw [any_memB] at HI
  obtain ⟨a, cap, rfl, _⟩ := ha.form
  clear ha
  obtain ⟨i, hx⟩ : ∃ i, i = idxI (fun y => x == y) l := ⟨_, rfl⟩
  obtain ⟨b, hb⟩ : ∃ b, b = memB l x := ⟨_, rfl⟩
  rw [← hx] at K HI
  rw [← hb] at HI ⊢
  clear hx hb
  go_enter Try.func25, Try.ntmps25
  go_wp2_with fail
  refine K.out.mono ?_
  rintro _ w2 ⟨_, rfl, hq2, rfl⟩
  clear K
  cases b with
  | true =>
    have h0 : 0 ≤ i := HI.out.2 rfl
    go_wp2
    go_ret
    exact .fin (by simp [h0]) hq2
  | false =>
    have h0 : ¬ 0 ≤ i := fun h => by cases HI.out.1 h
    go_wp2
    go_ret
    exact .fin (by simp [h0]) hq2
end Go.Proofs.Ytifcgcdbebgahaa
