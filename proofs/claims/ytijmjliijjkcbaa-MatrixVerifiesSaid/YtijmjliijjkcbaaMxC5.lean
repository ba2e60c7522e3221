/- When a matrix is small. -/
import Derived.Test.YtijmjliijjkcbaaMxC4
namespace Go.Proofs.Ytijmjliijjkcbaa
set_option linter.unusedVariables false
open Go.RowKit
attribute [local go_sem ↓] Go.wp_at_zero Go.wp_at_succ

def oddSize (m : Mx) : Bool := decide (4096 < m.rows.length) || decide (m.cols < 0) || decide (4096 < m.cols)
def fewM (m : Mx) : Bool := oddSize m || ((m.rows.take 20).all (fun r => decide (r.length ≤ 20)) && (decide (m.rows.length ≤ 14) && decide (m.cols ≤ 14)))
theorem fewM_odd {m : Mx} (h : oddSize m = true) : fewM m = true := by unfold fewM; rw [h]; rfl
theorem fewM_long {m : Mx} (h : oddSize m = false) {k : Nat} (h1 : k < m.rows.length) (h2 : k < 20) (h3 : 20 < (nthL m.rows k).length) : fewM m = false := by
  have : (m.rows.take 20).all (fun r => decide (r.length ≤ 20)) = false := by
    rw [List.all_eq_false]
    refine ⟨nthL m.rows k, ?_, by simp; omega⟩
    rw [nthL_eq h1, List.mem_take_iff_getElem]
    exact ⟨k, by omega, rfl⟩
  unfold fewM
  rw [h, this]; rfl
theorem fewM_short {m : Mx} (h : oddSize m = false) (h1 : ∀ j, j < m.rows.length → j < 20 → (nthL m.rows j).length ≤ 20) : fewM m = (decide (m.rows.length ≤ 14) && decide (m.cols ≤ 14)) := by
  have : (m.rows.take 20).all (fun r => decide (r.length ≤ 20)) = true := by
    rw [List.all_eq_true]
    intro r hr
    rw [List.mem_take_iff_getElem] at hr
    obtain ⟨k, hk, rfl⟩ := hr
    have := h1 k (by omega) (by omega)
    rw [nthL_eq (by omega)] at this
    simpa using this
  unfold fewM
  rw [h, this]; rfl

set_option maxRecDepth 100000 in
set_option maxHeartbeats 2000000 in
theorem refFew_calls {S : Nat → Prop} {w : World} {v : Value} {m : Mx} (h : MatV S w v m) :
    Calls Try.prog 46 #[v] w (Post w fun _ r => r = .bool (fewM m)) := by
  obtain ⟨rv, rfl, hl⟩ := h
  obtain ⟨cols, ll⟩ := m
  obtain ⟨a, cap, rfl, ad, l1, lm⟩ := hl.form
  dsimp only at hl l1 ad ⊢
  unfold maxLen at lm
  obtain ⟨i, hi, hz1, hz2, hz3⟩ := info_parts info_ints
  have HQ := Lib.hid (idx_one Try.underlying22 hi hz2 ad)
  clear hi hz1 hz2 hz3
  obtain ⟨E, hE⟩ : ∃ E, E = fewM ⟨cols, ll⟩ := ⟨_, rfl⟩
  rw [← hE]
  by_cases c2 : 4096 < ll.length
  · have R : Hid (E = true) := Lib.hid (by rw [hE]; exact fewM_odd (by simp [oddSize, c2]))
    clear hE
    go_enter Try.func46, Try.ntmps46
    go_wp2
    go_ret
    exact .mk (ext_alloc w _) (bool_eq R.out.symm)
  by_cases c0 : cols < 0
  · have R : Hid (E = true) := Lib.hid (by rw [hE]; exact fewM_odd (by simp [oddSize, c0]))
    clear hE
    go_enter Try.func46, Try.ntmps46
    go_wp2
    go_ret
    exact .mk (ext_alloc w _) (bool_eq R.out.symm)
  by_cases c1 : 4096 < cols
  · have R : Hid (E = true) := Lib.hid (by rw [hE]; exact fewM_odd (by simp [oddSize, c1]))
    clear hE
    go_enter Try.func46, Try.ntmps46
    go_wp2
    go_ret
    exact .mk (ext_alloc w _) (bool_eq R.out.symm)
  have HO : Hid (oddSize ⟨cols, ll⟩ = false) := Lib.hid (by simp [oddSize]; omega)
  have HE := Lib.hid hE
  clear hE
  have r0 := row_new w [.int .i64 cols, .slice a ll.length cap] 24
  have fin : ∀ (k : Nat), (∀ j, j < ll.length → j < 20 → (nthL ll j).length ≤ 20) → Hid (E = (decide (ll.length ≤ 14) && decide (cols ≤ 14))) := fun k h => Lib.hid (HE.out.trans (fewM_short HO.out h))
  go_enter Try.func46, Try.ntmps46
  go_wp2
  go_loopw [3] (fun i wr => ∃ k : Nat, k ≤ ll.length ∧ k ≤ 20 ∧ i = .int .i64 k ∧ Below w.heap.size w wr ∧ Row wr w.heap.size 24 [.int .i64 cols, .slice a ll.length cap] ∧ Hid (∀ j, j < k → (nthL ll j).length ≤ 20)) (fun i _ => ll.length - (intOf i).toNat)
  case atStart => exact ⟨0, Nat.zero_le _, by omega, rfl, ext_alloc w _, r0, Lib.hid (fun j hj => by omega)⟩
  case round =>
    obtain ⟨k, hk, hk2, rfl, hb, hr, hF⟩ := hrel
    obtain ⟨q0, q1⟩ := hr.two
    have endw : (∀ j, j < ll.length → j < 20 → (nthL ll j).length ≤ 20) → Hid (E = (decide (ll.length ≤ 14) && decide (cols ≤ 14))) := fin 0
    clear fin
    by_cases hlt : k < ll.length
    · by_cases h20 : k < 20
      · have q := HQ.out k hlt
        obtain ⟨u, cu, iu⟩ := hl.at hb hlt
        obtain ⟨a', cap', rfl, _, ll1, ll2⟩ := iu.form
        unfold maxLen at ll2
        have hi20 : (k : Int) < 20 := by omega
        by_cases h3 : 20 < (nthL ll k).length
        · have HR : Hid (E = false) := Lib.hid (HE.out.trans (fewM_long HO.out hlt h20 h3))
          clear endw
          go_wp2
          go_ret
          exact .mk hb (bool_eq HR.out.symm)
        · have HR : Hid (∀ j, j < k + 1 → (nthL ll j).length ≤ 20) := Lib.hid (fun j hj => by
            rcases Nat.lt_or_ge j k with h | h
            · exact hF.out j h
            · obtain rfl : j = k := by omega
              omega)
          clear endw hF
          go_wp2
          go_roundw
          case rel => exact ⟨k + 1, by omega, by omega, by go_num, hb, hr, HR⟩
          case measure => simp [intOf]; omega
      · have hi20 : ¬ (k : Int) < 20 := by omega
        have HR := endw (fun j h1 h2 => hF.out j (by omega))
        have hk20 : ¬ ll.length ≤ 14 := by omega
        have d0 : decide (ll.length ≤ 14) = false := decide_eq_false hk20
        have HR2 : Hid (E = false) := Lib.hid (by rw [HR.out, d0]; rfl)
        clear endw HR
        go_wp2
        go_ret
        exact .mk hb (bool_eq HR2.out.symm)
    · have HR := endw (fun j h1 h2 => hF.out j (by omega))
      clear endw
      by_cases h14 : ll.length ≤ 14
      · have HR2 : Hid (E = decide (cols ≤ 14)) := Lib.hid (by rw [HR.out, decide_eq_true h14]; rfl)
        clear HR
        go_wp2
        go_ret
        exact .mk hb (bool_eq HR2.out.symm)
      · have HR2 : Hid (E = false) := Lib.hid (by rw [HR.out, decide_eq_false h14]; rfl)
        clear HR
        go_wp2
        go_ret
        exact .mk hb (bool_eq HR2.out.symm)
end Go.Proofs.Ytijmjliijjkcbaa
