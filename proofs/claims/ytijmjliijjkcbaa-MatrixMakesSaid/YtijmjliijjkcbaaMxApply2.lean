/- The reference's images and transposes. -/
import Derived.Test.YtijmjliijjkcbaaMxApply
namespace Go.Proofs.Ytijmjliijjkcbaa
set_option linter.unusedVariables false
open Go.RowKit
attribute [local go_sem ↓] Go.wp_at_zero Go.wp_at_succ

set_option maxRecDepth 100000 in
set_option maxHeartbeats 2000000 in
theorem refImage_calls {S S' : Nat → Prop} {w : World} {va vx : Value} {m : Mx} {x : List Int} (ha : MatV S w va m) (hx : Ints S' w vx x) (hls : m.rows.length ≤ 100000) :
    Calls Try.prog 61 #[va, vx] w (Post w fun w' r => Ints (fun b => w.heap.size ≤ b) w' r (imageV m.rows x)) := by
  obtain ⟨cols, ll⟩ := m
  obtain ⟨ra, rfl, la⟩ := ha
  obtain ⟨aa, acap, rfl, aad, al1, alm⟩ := la.form
  dsimp only at la al1 aad hls ⊢
  unfold maxLen at alm
  obtain ⟨i0, hi, hz0, hz1, hz2⟩ := info_parts info_ints
  have HQA := Lib.hid (idx_one Try.underlying22 hi hz1 aad)
  have ex := ext_alloc w (.cells #[.int .i64 cols, .slice aa ll.length acap] 24)
  have R0 := row_new w [.int .i64 cols, .slice aa ll.length acap] 24
  have hz2' : w.heap.size + 1 ≤ (w.alloc (.cells #[.int .i64 cols, .slice aa ll.length acap] 24)).heap.size := by simp
  clear hi hz0 hz1 hz2
  go_enter Try.func61, Try.ntmps61
  go_wp2
  go_loopw [5, 6] (fun vo i wr => ∃ k : Nat, k ≤ ll.length ∧ i = .int .i64 k ∧ Below w.heap.size w wr ∧ w.heap.size + 1 ≤ wr.heap.size ∧ Row wr w.heap.size 24 [.int .i64 cols, .slice aa ll.length acap] ∧ wr.ownsRow (w.heap.size + 1) 3 1 vo (numsTo (fun i => oddV (nthL ll i) x) k).length ((numsTo (fun i => oddV (nthL ll i) x) k).map (Value.int .i64))) (fun _ i _ => ll.length - (intOf i).toNat)
  case atStart => exact ⟨0, Nat.zero_le _, rfl, ex, hz2', R0, World.ownsRow_nil _ _ _ _⟩
  case round =>
    obtain ⟨k, hk, rfl, hb, hzr, R0, ho⟩ := hrel
    obtain ⟨q0, q1⟩ := R0.two
    by_cases hlt : k < ll.length
    · have q := HQA.out k hlt
      obtain ⟨u, cu, iu⟩ := la.at hb hlt
      have HO := Lib.hid (refOdd_quiet iu (hx.ext hb))
      have HT := Lib.hid (numsTo_succ (fun i => oddV (nthL ll i) x) k)
      have hnl := numsTo_length (fun i => oddV (nthL ll i) x) k
      obtain ⟨acc, hacc⟩ : ∃ acc, acc = numsTo (fun i => oddV (nthL ll i) x) k := ⟨_, rfl⟩
      rw [← hacc] at ho HT hnl
      clear hacc
      go_wp2_with fail
      refine (HO.out.mono fun _ _ h => h.post).mono ?_
      rintro _ w3 ⟨_, rfl, hb3, rfl⟩
      have hb3' := ext_trans hb hb3
      have ho3 := owns_ext ho hb3
      have R3 := R0.ext hb3
      have hz3 : w.heap.size + 1 ≤ w3.heap.size := Nat.le_trans hzr hb3.size
      clear ho
      cases hod : oddV (nthL ll k) x with
      | false =>
        rw [hod, if_neg (by simp), List.append_nil] at HT
        rw [← HT.out] at ho3
        clear hod
        go_wp2
        go_roundw
        case rel => exact ⟨k + 1, by omega, by go_num, hb3', hz3, R3, ho3⟩
        case measure => simp [intOf]; omega
      | true =>
        rw [hod, if_pos rfl] at HT
        clear hod
        have HO3 := Lib.hid ho3
        clear ho3
        go_wp2_with (at_builtin; refine wpList_push rfl _ _ 38 rfl 3 _ 8 Try.underlying38 info_int rfl (w.heap.size + 1) _ _ _ rfl HO3.out (.int .i64 (k : Int)) rfl rfl (by omega) (by omega) (by omega) ?_; intro g' c' w5 hown5 hbel5 _ _)
        have hb5 := hb3'.trans (hbel5.mono (Nat.le_succ _))
        have hz5 := Nat.le_trans hz3 hbel5.size
        have R5 := R3.agree (S := fun b => b = w.heap.size) (.of_below hbel5 fun b hb _ => by omega) rfl
        have hT2 := Lib.hid (show w5.ownsRow (w.heap.size + 1) 3 1 (.slice (some ⟨g', 0, none⟩) (acc.length + 1) c') (numsTo (fun i => oddV (nthL ll i) x) (k + 1)).length ((numsTo (fun i => oddV (nthL ll i) x) (k + 1)).map (Value.int .i64)) from by rw [HT.out]; simpa using hown5)
        clear hown5 hbel5
        go_wp2
        go_roundw
        case rel => exact ⟨k + 1, by omega, by go_num, hb5, hz5, R5, hT2.out⟩
        case measure => simp [intOf]; omega
    · obtain rfl : k = ll.length := by omega
      have hI := Ints.of_own ho (wf_nums _ (by omega))
      go_wp2
      go_ret
      exact .mk hb (hI.mono fun b hb => by omega)

set_option maxRecDepth 100000 in
set_option maxHeartbeats 1000000 in
theorem refApply_calls {S S' : Nat → Prop} {w : World} {va vx : Value} {m : Mx} {x : List Int} (ha : MatV S w va m) (hx : Ints S' w vx x) :
    Calls Try.prog 39 #[va, vx] w (Post w (RetV w.heap.size (applyS m x))) := by
  obtain ⟨cols, ll⟩ := m
  obtain ⟨ra, rfl, la⟩ := ha
  obtain ⟨aa, acap, rfl, aad, al1, alm⟩ := la.form
  dsimp only at la al1 aad ⊢
  have ex := ext_alloc w (.cells #[.int .i64 cols, .slice aa ll.length acap] 24)
  have r0 := row_new w [.int .i64 cols, .slice aa ll.length acap] 24
  have KC := Lib.hid (refCheck_calls (v := .agg #[.int .i64 cols, .slice aa ll.length acap]) (m := ⟨cols, ll⟩) ⟨_, rfl, la.ext ex⟩)
  go_enter Try.func39, Try.ntmps39
  go_wp2_with fail
  refine KC.out.mono ?_
  rintro _ w1 ⟨_, rfl, hb1, rfl⟩
  have hx1 := ext_trans ex hb1
  have R0 := r0.ext hb1
  clear KC r0 ex
  by_cases h1 : ¬ checkM ⟨cols, ll⟩ = 0
  · have e1 : (checkM ⟨cols, ll⟩ != 0) = true := by simp [h1]
    have R := Lib.hid (applyS_err (x := x) h1)
    clear h1
    go_wp2
    go_ret2
    exact .mk hx1 (.mk R.out (.nil _ _))
  have h1 := Classical.not_not.1 h1
  have e1 : (checkM ⟨cols, ll⟩ != 0) = false := by simp [h1]
  have HM := Lib.hid (checkM_zero.1 h1)
  have H1 := Lib.hid h1
  clear h1
  obtain ⟨q0, q1⟩ := R0.two
  have KV := Lib.hid (refVector_calls (hx.ext hx1) cols)
  go_wp2_with fail
  refine KV.out.mono ?_
  rintro _ w2 ⟨_, rfl, hb2, rfl⟩
  have hx2 := ext_trans hx1 hb2
  have R0 := R0.ext hb2
  clear KV hx1 hb1 hb2 q0 q1
  by_cases h2 : ¬ vecE cols x = 0
  · have e2 : (vecE cols x != 0) = true := by simp [h2]
    have R := Lib.hid (applyS_vec (m := ⟨cols, ll⟩) H1.out h2)
    clear h2
    go_wp2
    go_ret2
    exact .mk hx2 (.mk R.out (.nil _ _))
  have h2 := Classical.not_not.1 h2
  have e2 : (vecE cols x != 0) = false := by simp [h2]
  have R := Lib.hid (applyS_ok (m := ⟨cols, ll⟩) H1.out h2)
  clear h2
  obtain ⟨q0, q1⟩ := R0.two
  have KI := Lib.hid (refImage_calls (va := .agg #[.int .i64 cols, .slice aa ll.length acap]) (m := ⟨cols, ll⟩) (w := w2) ⟨_, rfl, la.ext hx2⟩ (hx.ext hx2) (by have := HM.out.r1; dsimp only at this ⊢; omega))
  go_wp2_with fail
  refine KI.out.mono ?_
  rintro _ w3 ⟨v3, rfl, hb3, iv⟩
  have hbs := hx2.size
  go_wp2
  go_ret2
  exact .mk (ext_trans hx2 hb3) (.mk R.out (iv.mono fun b hb => by omega))

/-- The loop over the rows, for one column. -/
theorem wf_col (R : List (List Int)) (c : Int) {k : Nat} (hk : k ≤ 1000000) : ∀ x ∈ colTo R k c, WF x := wf_nums _ hk
theorem colTo_succ (R : List (List Int)) (k : Nat) (c : Int) : colTo R (k + 1) c = colTo R k c ++ (if memB (nthL R k) c = true then [(k : Int)] else []) := numsTo_succ _ k
theorem colTo_length (R : List (List Int)) (k : Nat) (c : Int) : (colTo R k c).length ≤ k := numsTo_length _ k
end Go.Proofs.Ytijmjliijjkcbaa
