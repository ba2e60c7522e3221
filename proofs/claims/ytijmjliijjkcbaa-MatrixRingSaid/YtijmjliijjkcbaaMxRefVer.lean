/- The reference's check of refutations. -/
import Derived.Test.YtijmjliijjkcbaaMxVerify
import Derived.Test.YtijmjliijjkcbaaMxRowsA
import Derived.Test.YtijmjliijjkcbaaMxC
namespace Go.Proofs.Ytijmjliijjkcbaa
set_option linter.unusedVariables false
open Go.RowKit
attribute [local go_sem ↓] Go.wp_at_zero Go.wp_at_succ

set_option maxRecDepth 100000 in
set_option maxHeartbeats 4000000 in
theorem refVerify_calls {S S' S2 : Nat → Prop} {w : World} {va vb vy : Value} {m : Mx} {b y : List Int} (ha : MatV S w va m) (hbv : Ints S' w vb b) (hyv : Ints S2 w vy y) :
    Calls Try.prog 26 #[va, vb, vy] w (Post w fun _ r => r = .int .i64 (verS m b y)) := by
  obtain ⟨cols, ll⟩ := m
  obtain ⟨ra, rfl, la⟩ := ha
  obtain ⟨aa, acap, rfl, aad, al1, alm⟩ := la.form
  dsimp only at la al1 aad ⊢
  unfold maxLen at alm
  have ex : Below w.heap.size w (w.alloc (.cells #[.int .i64 cols, .slice aa ll.length acap] 24)) := ext_alloc w _
  have r0 := row_new w [.int .i64 cols, .slice aa ll.length acap] 24
  have KC := Lib.hid (refCheck_calls (v := .agg #[.int .i64 cols, .slice aa ll.length acap]) (m := ⟨cols, ll⟩) ⟨_, rfl, la.ext ex⟩)
  go_enter Try.func26, Try.ntmps26
  go_wp2_with fail
  refine KC.out.mono ?_
  rintro _ w1 ⟨_, rfl, hb1, rfl⟩
  have hx1 := ext_trans ex hb1
  have R0 := r0.ext hb1
  clear KC r0 ex hb1
  by_cases h1 : ¬ checkM ⟨cols, ll⟩ = 0
  · have e1 : (checkM ⟨cols, ll⟩ != 0) = true := by simp [h1]
    have R := Lib.hid (verS_err (b := b) (y := y) h1)
    clear h1
    go_wp2
    go_ret
    exact .mk hx1 (int_eq R.out.symm)
  have h1 := Classical.not_not.1 h1
  have e1 : (checkM ⟨cols, ll⟩ != 0) = false := by simp [h1]
  have HM := Lib.hid (checkM_zero.1 h1)
  have H1 := Lib.hid h1
  clear h1
  obtain ⟨q0, q1⟩ := R0.two
  have KV := Lib.hid (refVector_calls (hbv.ext hx1) (ll.length : Int))
  go_wp2_with fail
  refine KV.out.mono ?_
  rintro _ w2 ⟨_, rfl, hb2, rfl⟩
  have hx2 := ext_trans hx1 hb2
  have R0 := R0.ext hb2
  clear KV hx1 hb2 q0 q1
  by_cases h2 : ¬ vecE (ll.length : Int) b = 0
  · have e2 : (vecE (ll.length : Int) b != 0) = true := by simp [h2]
    have R := Lib.hid (verS_b (m := ⟨cols, ll⟩) (y := y) H1.out h2)
    clear h2
    go_wp2
    go_ret
    exact .mk hx2 (int_eq R.out.symm)
  have h2 := Classical.not_not.1 h2
  have e2 : (vecE (ll.length : Int) b != 0) = false := by simp [h2]
  have HV := Lib.hid (HM.out.vec (by have := HM.out.r1; dsimp only at this; omega) h2)
  have H2 := Lib.hid h2
  clear h2
  obtain ⟨q0, q1⟩ := R0.two
  have KV := Lib.hid (refVector_calls (hyv.ext hx2) (ll.length : Int))
  go_wp2_with fail
  refine KV.out.mono ?_
  rintro _ w3 ⟨_, rfl, hb3, rfl⟩
  have hx3 := ext_trans hx2 hb3
  have R0 := R0.ext hb3
  clear KV hx2 hb3 q0 q1
  by_cases h3 : ¬ vecE (ll.length : Int) y = 0
  · have e3 : (vecE (ll.length : Int) y != 0) = true := by simp [h3]
    have R := Lib.hid (verS_y (m := ⟨cols, ll⟩) H1.out H2.out h3)
    clear h3
    go_wp2
    go_ret
    exact .mk hx3 (int_eq R.out.symm)
  have h3 := Classical.not_not.1 h3
  have e3 : (vecE (ll.length : Int) y != 0) = false := by simp [h3]
  have HW := Lib.hid (HM.out.vec (by have := HM.out.r1; dsimp only at this; omega) h3)
  have HYR := Lib.hid (vecE_zero.1 h3)
  have H3 := Lib.hid h3
  clear h3
  have ROK := Lib.hid HM.out.rok
  have hyv0 := hyv
  obtain ⟨ya, ycap, rfl, yad, yl1, ylm, hyc, hyw⟩ := hyv
  obtain ⟨ba, bcap, rfl, _⟩ := hbv.form
  obtain ⟨q0, q1⟩ := R0.two
  have KS := Lib.hid (refSum_calls (la.ext hx3) (hyv0.ext hx3) ROK.out HYR.out.2)
  go_wp2_with fail
  refine KS.out.mono ?_
  rintro _ w4 ⟨v4, rfl, hb4, iv⟩
  have hb := ext_trans hx3 hb4
  have hv := iv.mono (S' := fun _ => True) fun _ _ => trivial
  clear iv
  obtain ⟨av, cv, rfl, _⟩ := hv.form
  obtain ⟨sl, hsl⟩ : ∃ sl, sl = (sumRows ll y).length := ⟨_, rfl⟩
  rw [← hsl]
  by_cases hs : (sumRows ll y).length = 0
  · have d0 : decide (0 < sl) = false := by rw [hsl, hs]; rfl
    have d0' : ¬ 0 < sl := by omega
    clear hsl hv
    have HO := Lib.hid ((refOdd_quiet (hbv.ext hb) (hyv0.ext hb)).mono fun _ _ h => h.post)
    rw [oddV_comm HV.out.1 HW.out.1] at HO
    have HS := Lib.hid hs
    clear hs
    go_wp2_with fail
    refine HO.out.mono ?_
    rintro _ w5 ⟨_, rfl, hb5, rfl⟩
    have hb5' := ext_trans hb hb5
    cases hod : oddV y b with
    | true =>
      have R := Lib.hid (verS_yes (m := ⟨cols, ll⟩) H1.out H2.out H3.out (by rw [HS.out, hod]; simp))
      clear hod
      go_wp2
      go_ret
      exact .mk hb5' (int_eq R.out.symm)
    | false =>
      have R := Lib.hid (verS_no (m := ⟨cols, ll⟩) H1.out H2.out H3.out (.inr hod))
      clear hod
      go_wp2
      go_ret
      exact .mk hb5' (int_eq R.out.symm)
  · have d0 : decide (0 < sl) = true := by rw [hsl]; exact decide_eq_true (by omega)
    have d0' : 0 < sl := by omega
    clear hsl hv
    have R := Lib.hid (verS_no (m := ⟨cols, ll⟩) H1.out H2.out H3.out (.inl hs))
    clear hs
    go_wp2
    go_ret
    exact .mk hb (int_eq R.out.symm)
end Go.Proofs.Ytijmjliijjkcbaa
