/- A matrix applied to a vector, in the program and in the reference. -/
import Derived.Test.YtijmjliijjkcbaaMxRows
import Derived.Test.YtijmjliijjkcbaaMxTr
namespace Go.Proofs.Ytijmjliijjkcbaa
set_option linter.unusedVariables false
open Go.RowKit
attribute [local go_sem ↓] Go.wp_at_zero Go.wp_at_succ

/-- What a call returns: a vector in new blocks, and an error's number. -/
def RetV (base : Nat) (x : List Int × Int) (w' : World) (r : Value) : Prop := ∃ v, r = .tuple #[v, .int .i64 x.2] ∧ Ints (fun b => base ≤ b) w' v x.1
theorem RetV.mk {base : Nat} {x : List Int × Int} {w' : World} {v : Value} {l : List Int} {e : Int} (hx : x = (l, e)) (h : Ints (fun b => base ≤ b) w' v l) : RetV base x w' (.tuple #[v, .int .i64 e]) := by
  subst hx; exact ⟨_, rfl, h⟩
theorem wf_nums (p : Nat → Bool) {k : Nat} (hk : k ≤ 1000000) : ∀ x ∈ numsTo p k, WF x := fun x hx => by
  have := mem_numsTo.1 hx
  exact WF.small (by omega)

set_option maxRecDepth 100000 in
set_option maxHeartbeats 2000000 in
theorem apply_calls {S S' : Nat → Prop} {w : World} {va vx : Value} {m : Mx} {x : List Int} (ha : MatV S w va m) (hx : Ints S' w vx x) :
    Calls Try.prog 31 #[va, vx] w (Post w (RetV w.heap.size (applyS m x))) := by
  obtain ⟨cols, ll⟩ := m
  obtain ⟨ra, rfl, la⟩ := ha
  obtain ⟨aa, acap, rfl, aad, al1, alm⟩ := la.form
  dsimp only at la al1 aad ⊢
  unfold maxLen at alm
  obtain ⟨i0, hi, hz0, hz1, hz2⟩ := info_parts info_ints
  have HQA := Lib.hid (idx_one Try.underlying22 hi hz1 aad)
  have ex := ext_alloc w (.cells #[.int .i64 cols, .slice aa ll.length acap] 24)
  have r0 := row_new w [.int .i64 cols, .slice aa ll.length acap] 24
  have KC := Lib.hid (check_calls (v := .agg #[.int .i64 cols, .slice aa ll.length acap]) (m := ⟨cols, ll⟩) ⟨_, rfl, la.ext ex⟩)
  clear hi hz0 hz1 hz2
  go_enter Try.func31, Try.ntmps31
  go_wp2_with fail
  refine KC.out.mono ?_
  rintro _ w1 ⟨_, rfl, hb1, rfl⟩
  have hx1 := ext_trans ex hb1
  have R0 := r0.ext hb1
  clear KC r0 ex
  by_cases h1 : ¬ checkM ⟨cols, ll⟩ = 0
  · have e1 : (checkM ⟨cols, ll⟩ != 0) = true := by simp [h1]
    have R := Lib.hid (applyS_err (x := x) h1)
    clear h1
    go_wp2
    go_ret2
    exact .mk hx1 (.mk R.out (.nil _ _))
  have h1 := Classical.not_not.1 h1
  have e1 : (checkM ⟨cols, ll⟩ != 0) = false := by simp [h1]
  have HM := Lib.hid (checkM_zero.1 h1)
  have H1 := Lib.hid h1
  clear h1
  obtain ⟨q0, q1⟩ := R0.two
  have KV := Lib.hid (vector_calls (hx.ext hx1) cols)
  go_wp2_with fail
  refine KV.out.mono ?_
  rintro _ w2 ⟨_, rfl, hb2, rfl⟩
  have hx2 := ext_trans hx1 hb2
  have R0 := R0.ext hb2
  clear KV hx1 hb1 hb2 q0 q1
  by_cases h2 : ¬ vecE cols x = 0
  · have e2 : (vecE cols x != 0) = true := by simp [h2]
    have R := Lib.hid (applyS_vec (m := ⟨cols, ll⟩) H1.out h2)
    clear h2
    go_wp2
    go_ret2
    exact .mk hx2 (.mk R.out (.nil _ _))
  have h2 := Classical.not_not.1 h2
  have e2 : (vecE cols x != 0) = false := by simp [h2]
  have HX := Lib.hid (vecE_zero.1 h2)
  have R := Lib.hid (applyS_ok (m := ⟨cols, ll⟩) H1.out h2)
  clear h2
  obtain ⟨q0, q1⟩ := R0.two
  have hls : ll.length ≤ 4096 := HM.out.r1
  have hz2 : w.heap.size + 1 ≤ w2.heap.size := R0.lt
  go_wp2
  go_loopw [8, 26] (fun vo i wr => ∃ k : Nat, k ≤ ll.length ∧ i = .int .i64 k ∧ Below w.heap.size w wr ∧ w.heap.size + 1 ≤ wr.heap.size ∧ wr.ownsRow (w.heap.size + 1) 3 1 vo (numsTo (fun i => oddV (nthL ll i) x) k).length ((numsTo (fun i => oddV (nthL ll i) x) k).map (Value.int .i64))) (fun _ i _ => ll.length - (intOf i).toNat)
  case atStart => exact ⟨0, Nat.zero_le _, rfl, hx2, hz2, World.ownsRow_nil _ _ _ _⟩
  case round =>
    obtain ⟨k, hk, rfl, hb, hzr, ho⟩ := hrel
    by_cases hlt : k < ll.length
    · have q := HQA.out k hlt
      obtain ⟨u, cu, iu⟩ := la.at hb hlt
      have hn1 := HM.out.rok.nth_len k
      have hn2 := small_len (by have := HM.out.c1; dsimp only at this; omega) HX.out.1 HX.out.2
      have HO := Lib.hid (odd_calls iu (hx.ext hb) (HM.out.rok.nth_ord k) HX.out.1 (by dsimp only at hn1; omega))
      have HT := Lib.hid (numsTo_succ (fun i => oddV (nthL ll i) x) k)
      have hnl := numsTo_length (fun i => oddV (nthL ll i) x) k
      obtain ⟨acc, hacc⟩ : ∃ acc, acc = numsTo (fun i => oddV (nthL ll i) x) k := ⟨_, rfl⟩
      rw [← hacc] at ho HT hnl
      clear hacc hn1 hn2
      go_wp2_with fail
      refine HO.out.mono ?_
      rintro _ w3 ⟨_, rfl, hb3, rfl⟩
      have hb3' := ext_trans hb hb3
      have ho3 := owns_ext ho hb3
      have hz3 : w.heap.size + 1 ≤ w3.heap.size := Nat.le_trans hzr hb3.size
      clear ho
      cases hod : oddV (nthL ll k) x with
      | false =>
        rw [hod, if_neg (by simp), List.append_nil] at HT
        rw [← HT.out] at ho3
        clear hod
        go_wp2
        go_roundw
        case rel => exact ⟨k + 1, by omega, by go_num, hb3', hz3, ho3⟩
        case measure => simp [intOf]; omega
      | true =>
        rw [hod, if_pos rfl] at HT
        clear hod
        have HO3 := Lib.hid ho3
        clear ho3
        go_wp2_with (at_builtin; refine wpList_push rfl _ _ 38 rfl 3 _ 8 Try.underlying38 info_int rfl (w.heap.size + 1) _ _ _ rfl HO3.out (.int .i64 (k : Int)) rfl rfl (by omega) (by omega) (by omega) ?_; intro g' c' w5 hown5 hbel5 _ _)
        have hb5 := hb3'.trans (hbel5.mono (Nat.le_succ _))
        have hz5 := Nat.le_trans hz3 hbel5.size
        have hT2 := Lib.hid (show w5.ownsRow (w.heap.size + 1) 3 1 (.slice (some ⟨g', 0, none⟩) (acc.length + 1) c') (numsTo (fun i => oddV (nthL ll i) x) (k + 1)).length ((numsTo (fun i => oddV (nthL ll i) x) (k + 1)).map (Value.int .i64)) from by rw [HT.out]; simpa using hown5)
        clear hown5 hbel5
        go_wp2
        go_roundw
        case rel => exact ⟨k + 1, by omega, by go_num, hb5, hz5, hT2.out⟩
        case measure => simp [intOf]; omega
    · obtain rfl : k = ll.length := by omega
      have hI := Ints.of_own ho (wf_nums _ (by omega))
      go_wp2
      go_ret2
      exact .mk hb (.mk R.out (hI.mono fun b hb => by omega))
end Go.Proofs.Ytijmjliijjkcbaa
