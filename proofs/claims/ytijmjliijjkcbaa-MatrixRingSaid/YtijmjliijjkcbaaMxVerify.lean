/- The program's check of refutations. -/
import Derived.Test.YtijmjliijjkcbaaMxSolve
namespace Go.Proofs.Ytijmjliijjkcbaa
set_option linter.unusedVariables false
open Go.RowKit Go.Maps
attribute [local go_sem ↓] Go.wp_at_zero Go.wp_at_succ

def verS (m : Mx) (b y : List Int) : Int :=
  if checkM m ≠ 0 then checkM m else if vecE m.rows.length b ≠ 0 then vecE m.rows.length b else if vecE m.rows.length y ≠ 0 then vecE m.rows.length y else if (sumRows m.rows y).length ≠ 0 ∨ oddV y b = false then 18 else 0
theorem verS_err {m : Mx} {b y : List Int} (h : checkM m ≠ 0) : verS m b y = checkM m := by unfold verS; rw [if_pos h]
theorem verS_b {m : Mx} {b y : List Int} (h : checkM m = 0) (h2 : vecE m.rows.length b ≠ 0) : verS m b y = vecE m.rows.length b := by unfold verS; rw [if_neg (by simp [h]), if_pos h2]
theorem verS_y {m : Mx} {b y : List Int} (h : checkM m = 0) (h2 : vecE m.rows.length b = 0) (h3 : vecE m.rows.length y ≠ 0) : verS m b y = vecE m.rows.length y := by unfold verS; rw [if_neg (by simp [h]), if_neg (by simp [h2]), if_pos h3]
theorem verS_no {m : Mx} {b y : List Int} (h : checkM m = 0) (h2 : vecE m.rows.length b = 0) (h3 : vecE m.rows.length y = 0) (h4 : (sumRows m.rows y).length ≠ 0 ∨ oddV y b = false) : verS m b y = 18 := by unfold verS; rw [if_neg (by simp [h]), if_neg (by simp [h2]), if_neg (by simp [h3]), if_pos h4]
theorem verS_yes {m : Mx} {b y : List Int} (h : checkM m = 0) (h2 : vecE m.rows.length b = 0) (h3 : vecE m.rows.length y = 0) (h4 : ¬ ((sumRows m.rows y).length ≠ 0 ∨ oddV y b = false)) : verS m b y = 0 := by unfold verS; rw [if_neg (by simp [h]), if_neg (by simp [h2]), if_neg (by simp [h3]), if_neg h4]

set_option maxRecDepth 100000 in
set_option maxHeartbeats 4000000 in
theorem verify_calls {S S' S2 : Nat → Prop} {w : World} {va vb vy : Value} {m : Mx} {b y : List Int} (ha : MatV S w va m) (hbv : Ints S' w vb b) (hyv : Ints S2 w vy y) :
    Calls Try.prog 27 #[va, vb, vy] w (Post w fun _ r => r = .int .i64 (verS m b y)) := by
  obtain ⟨cols, ll⟩ := m
  obtain ⟨ra, rfl, la⟩ := ha
  obtain ⟨aa, acap, rfl, aad, al1, alm⟩ := la.form
  dsimp only at la al1 aad ⊢
  unfold maxLen at alm
  have ex : Below w.heap.size w (w.alloc (.cells #[.int .i64 cols, .slice aa ll.length acap] 24)) := ext_alloc w _
  have r0 := row_new w [.int .i64 cols, .slice aa ll.length acap] 24
  have KC := Lib.hid (check_calls (v := .agg #[.int .i64 cols, .slice aa ll.length acap]) (m := ⟨cols, ll⟩) ⟨_, rfl, la.ext ex⟩)
  go_enter Try.func27, Try.ntmps27
  go_wp2_with fail
  refine KC.out.mono ?_
  rintro _ w1 ⟨_, rfl, hb1, rfl⟩
  have hx1 := ext_trans ex hb1
  have R0 := r0.ext hb1
  clear KC r0 ex hb1
  by_cases h1 : ¬ checkM ⟨cols, ll⟩ = 0
  · have e1 : (checkM ⟨cols, ll⟩ != 0) = true := by simp [h1]
    have R := Lib.hid (verS_err (b := b) (y := y) h1)
    clear h1
    go_wp2
    go_ret
    exact .mk hx1 (int_eq R.out.symm)
  have h1 := Classical.not_not.1 h1
  have e1 : (checkM ⟨cols, ll⟩ != 0) = false := by simp [h1]
  have HM := Lib.hid (checkM_zero.1 h1)
  have H1 := Lib.hid h1
  clear h1
  obtain ⟨q0, q1⟩ := R0.two
  have KV := Lib.hid (vector_calls (hbv.ext hx1) (ll.length : Int))
  go_wp2_with fail
  refine KV.out.mono ?_
  rintro _ w2 ⟨_, rfl, hb2, rfl⟩
  have hx2 := ext_trans hx1 hb2
  have R0 := R0.ext hb2
  clear KV hx1 hb2 q0 q1
  by_cases h2 : ¬ vecE (ll.length : Int) b = 0
  · have e2 : (vecE (ll.length : Int) b != 0) = true := by simp [h2]
    have R := Lib.hid (verS_b (m := ⟨cols, ll⟩) (y := y) H1.out h2)
    clear h2
    go_wp2
    go_ret
    exact .mk hx2 (int_eq R.out.symm)
  have h2 := Classical.not_not.1 h2
  have e2 : (vecE (ll.length : Int) b != 0) = false := by simp [h2]
  have HV := Lib.hid (HM.out.vec (by have := HM.out.r1; dsimp only at this; omega) h2)
  have H2 := Lib.hid h2
  clear h2
  obtain ⟨q0, q1⟩ := R0.two
  have KV := Lib.hid (vector_calls (hyv.ext hx2) (ll.length : Int))
  go_wp2_with fail
  refine KV.out.mono ?_
  rintro _ w3 ⟨_, rfl, hb3, rfl⟩
  have hx3 := ext_trans hx2 hb3
  have R0 := R0.ext hb3
  clear KV hx2 hb3 q0 q1
  by_cases h3 : ¬ vecE (ll.length : Int) y = 0
  · have e3 : (vecE (ll.length : Int) y != 0) = true := by simp [h3]
    have R := Lib.hid (verS_y (m := ⟨cols, ll⟩) H1.out H2.out h3)
    clear h3
    go_wp2
    go_ret
    exact .mk hx3 (int_eq R.out.symm)
  have h3 := Classical.not_not.1 h3
  have e3 : (vecE (ll.length : Int) y != 0) = false := by simp [h3]
  have HW := Lib.hid (HM.out.vec (by have := HM.out.r1; dsimp only at this; omega) h3)
  have HYR := Lib.hid (vecE_zero.1 h3)
  have H3 := Lib.hid h3
  clear h3
  have ROK := Lib.hid HM.out.rok
  obtain ⟨i0, hi, hz0, hz1, hz2⟩ := info_parts info_ints
  obtain ⟨i1, hj, hy0, hy1, hy2⟩ := info_parts info_int
  have hyv0 := hyv
  obtain ⟨ya, ycap, rfl, yad, yl1, ylm, hyc, hyw⟩ := hyv
  unfold maxLen at ylm
  have HQA := Lib.hid (fun x => idx_num Try.underlying22 hi hz1 aad x)
  have HQY := Lib.hid (idx_one Try.underlying38 hj hy1 yad)
  have HYC := Lib.hid hyc
  have hr3 := Below.refl w3.heap.size w3
  clear hi hz0 hz1 hz2 hj hy0 hy1 hy2 hyc
  go_wp2
  go_loopw [10, 12, 36] (fun vo _ i wr => ∃ k : Nat, k ≤ y.length ∧ i = .int .i64 k ∧ Below w3.heap.size w3 wr ∧ Ints (fun _ => True) wr vo (sumRows ll (y.take k))) (fun _ _ i _ => y.length - (intOf i).toNat)
  case atStart => exact ⟨0, Nat.zero_le _, rfl, hr3, .nil _ _⟩
  case round =>
    obtain ⟨k, hk, rfl, hb3, hv⟩ := hrel
    have hb := ext_trans hx3 hb3
    have R0r := R0.ext hb3
    obtain ⟨q0, q1⟩ := R0r.two
    by_cases hlt : k < y.length
    · have qy := HQY.out k hlt
      have cy := cells_at yad hb HYC.out k hlt
      have hx := HYR.out.2 _ (nth_mem hlt)
      have HT := Lib.hid (show sumRows ll (y.take (k + 1)) = xorL (sumRows ll (y.take k)) (nthL ll (nth y k).toNat) from by rw [take_nth hlt, sumRows_snoc])
      obtain ⟨x, hxx⟩ : ∃ x, x = nth y k := ⟨_, rfl⟩
      rw [← hxx] at cy hx HT
      clear hxx
      have qa := HQA.out x hx.1 hx.2
      obtain ⟨u, cu, iu⟩ := la.at hb (k := x.toNat) (by omega)
      have hn1 := sumRows_len ROK.out (y.take k)
      have hn2 := ROK.out.nth_len x.toNat
      have HP := Lib.hid (sum_calls hv iu (by omega))
      obtain ⟨hx0, hx1⟩ := hx
      clear hn1 hn2
      go_wp2_with fail
      refine HP.out.mono ?_
      rintro _ w4 ⟨v4, rfl, hb4, iv⟩
      rw [← HT.out] at iv
      have hb34 := ext_trans hb3 hb4
      go_wp2
      go_roundw
      case rel => exact ⟨k + 1, by omega, by go_num, hb34, iv.all⟩
      case measure => simp [intOf]; omega
    · rw [List.take_of_length_le (by omega)] at hv
      obtain ⟨av, cv, rfl, _⟩ := hv.form
      obtain ⟨sl, hsl⟩ : ∃ sl, sl = (sumRows ll y).length := ⟨_, rfl⟩
      rw [← hsl]
      by_cases hs : (sumRows ll y).length = 0
      · have d0 : decide (0 < sl) = false := by rw [hsl, hs]; rfl
        have d0' : ¬ 0 < sl := by omega
        clear hsl hv
        have HO := Lib.hid (odd_calls (hyv0.ext hb) (hbv.ext hb) HW.out.1 HV.out.1 (by have := HV.out.2; have := HW.out.2; omega))
        have HS := Lib.hid hs
        clear hs
        go_wp2_with fail
        refine HO.out.mono ?_
        rintro _ w5 ⟨_, rfl, hb5, rfl⟩
        have hb5' := ext_trans hb hb5
        cases hod : oddV y b with
        | true =>
          have R := Lib.hid (verS_yes (m := ⟨cols, ll⟩) H1.out H2.out H3.out (by rw [HS.out, hod]; simp))
          clear hod
          go_wp2
          go_ret
          exact .mk hb5' (int_eq R.out.symm)
        | false =>
          have R := Lib.hid (verS_no (m := ⟨cols, ll⟩) H1.out H2.out H3.out (.inr hod))
          clear hod
          go_wp2
          go_ret
          exact .mk hb5' (int_eq R.out.symm)
      · have d0 : decide (0 < sl) = true := by rw [hsl]; exact decide_eq_true (by omega)
        have d0' : 0 < sl := by omega
        clear hsl hv
        have R := Lib.hid (verS_no (m := ⟨cols, ll⟩) H1.out H2.out H3.out (.inl hs))
        clear hs
        go_wp2
        go_ret
        exact .mk hb (int_eq R.out.symm)
end Go.Proofs.Ytijmjliijjkcbaa
