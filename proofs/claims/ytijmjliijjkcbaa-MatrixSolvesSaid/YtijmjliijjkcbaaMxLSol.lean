/- The walk of MatrixSolves. Printed by sol5law.py. -/
import Derived.Test.YtijmjliijjkcbaaMxLaw2
import Derived.Test.YtijmjliijjkcbaaReg
namespace Go.Proofs.Ytijmjliijjkcbaa
set_option linter.unusedVariables false
open Go.RowKit
attribute [local go_sem ↓] Go.wp_at_zero Go.wp_at_succ

set_option maxRecDepth 100000 in
set_option maxHeartbeats 4000000 in
theorem walkMatrixSolves {Sm Sb : Nat → Prop} {w : World} {vm vb : Value} {m : Mx} {b : List Int} (hm : MatV Sm w vm m) (hb : Ints Sb w vb b) :
    Calls Try.prog 4 #[vm, vb] w (Post w fun _ r => r = .bool true) := by
  obtain ⟨cols, ll⟩ := m
  obtain ⟨rm, rfl, lam⟩ := hm
  obtain ⟨am, nm, rfl, _⟩ := lam.form
  dsimp only at lam ⊢
  have hm : MatV Sm w (.agg #[.int .i64 cols, .slice am ll.length nm]) ⟨cols, ll⟩ := ⟨_, rfl, lam⟩
  clear lam
  obtain ⟨ab, nb, rfl, _⟩ := hb.form
  have HB := Below.refl w.heap.size w
  have HT := Lib.hid (⟨_, rfl⟩ : ∃ t, t = solS ⟨cols, ll⟩ b)
  obtain ⟨⟨⟨x, y⟩, ⟨q, e⟩⟩, hT⟩ := HT.out
  have HS := Lib.hid hT
  clear HT hT
  go_enter Try.func4, Try.ntmps4
  have ex1 := ext_alloc' (ext_alloc w (.cells #[.int .i64 cols, .slice am ll.length nm] 24)) (.cells #[.int .i64 cols, .slice am ll.length nm] 24)
  have hmx := hm.ext ex1
  have hbx := hb.ext ex1
  have R0 := row_new w [.int .i64 cols, .slice am ll.length nm] 24
  replace R0 := R0.ext (ext_alloc (w.alloc (.cells #[.int .i64 cols, .slice am ll.length nm] 24)) (.cells #[.int .i64 cols, .slice am ll.length nm] 24))
  have KK := Lib.hid (few1 (hm.ext (ext_alloc w (.cells #[.int .i64 cols, .slice am ll.length nm] 24))) (B := w.heap.size + 1) (e := 24) (by simp))
  go_wp2_with fail
  refine KK.out.mono ?_
  rintro _ w1 ⟨_, rfl, hb1, rfl⟩
  clear KK
  have hy1 := ext_trans ex1 hb1
  replace hm := hm.ext hy1
  replace hb := hb.ext hy1
  replace R0 := R0.ext hb1
  replace HB := ext_trans HB hy1
  clear ex1 hmx hbx hy1 hb1
  cases hf : fewM ⟨cols, ll⟩ with
  | false =>
    clear hf
    go_wp2_with fail
    refine (awake_calls _).mono ?_
    rintro _ w2 ⟨_, rfl, hb2, rfl⟩
    go_wp2
    go_ret
    exact .mk (ext_trans HB hb2) rfl
  | true =>
  have HCS := Lib.hid (fewM_cols' hf)
  clear hf
  by_cases hlx : 40 < b.length
  · have d1 : decide (40 < b.length) = true := decide_eq_true hlx
    go_wp2_with fail
    refine (awake_calls _).mono ?_
    rintro _ w2 ⟨_, rfl, hb2, rfl⟩
    go_wp2
    go_ret
    exact .mk (ext_trans HB hb2) rfl
  have d1 : decide (40 < b.length) = false := decide_eq_false hlx
  obtain ⟨R0a, R0b⟩ := R0.two
  have KK := Lib.hid (solve_gen hm hb HS.out.symm)
  go_wp2_with fail
  refine KK.out.mono ?_
  rintro _ w2 ⟨_, rfl, hb2, xa, xc, ya, yc, rfl, h1, h2⟩
  clear KK
  have hy2 := hb2
  replace hm := hm.ext hy2
  replace hb := hb.ext hy2
  replace R0 := R0.ext hy2
  replace HB := ext_trans HB hy2
  clear R0a R0b hy2 hb2
  obtain ⟨R0a, R0b⟩ := R0.two
  have KK := Lib.hid (refSolve_gen hm hb HCS.out HS.out.symm)
  go_wp2_with fail
  refine KK.out.mono ?_
  rintro _ w3 ⟨_, rfl, hb3, za, zc, rfl, h3⟩
  clear KK
  have hy3 := hb3
  replace hm := hm.ext hy3
  replace hb := hb.ext hy3
  replace h1 := h1.ext hy3
  replace h2 := h2.ext hy3
  replace R0 := R0.ext hy3
  replace HB := ext_trans HB hy3
  clear R0a R0b hy3 hb3
  obtain ⟨R0a, R0b⟩ := R0.two
  have KK := Lib.hid (equal_lit h1 h3 rfl)
  go_wp2_with fail
  refine KK.out.mono ?_
  rintro _ w4 ⟨_, rfl, hb4, rfl⟩
  clear KK
  have hy4 := hb4
  replace hm := hm.ext hy4
  replace hb := hb.ext hy4
  replace h1 := h1.ext hy4
  replace h2 := h2.ext hy4
  replace h3 := h3.ext hy4
  replace R0 := R0.ext hy4
  replace HB := ext_trans HB hy4
  clear R0a R0b hy4 hb4
  rcases sol_cases HS.out.symm with ⟨c1, c2⟩ | ⟨c1, c2, c3⟩ | ⟨c1, c2, c3⟩
  · have e1 : (e != 0) = true := by simp [c1]
    subst c2
    clear c1
    go_wp2_with fail
    refine (awake_calls _).mono ?_
    rintro _ w5 ⟨_, rfl, hb5, rfl⟩
    go_wp2
    go_ret
    exact .mk (ext_trans HB hb5) rfl
  · subst c1 c2 c3
    go_wp2_with fail
    refine (awake_calls _).mono ?_
    rintro _ w5 ⟨_, rfl, hb5, rfl⟩
    go_wp2
    go_ret
    exact .mk (ext_trans HB hb5) rfl
  · subst c1 c2
    have R0p := R0.two.1
    have R0q := R0.two.2
    have KK := Lib.hid (refVerify_gen hm hb h2 c3)
    clear c3
    go_wp2_with fail
    refine KK.out.mono ?_
    rintro _ w5 ⟨_, rfl, hb5, rfl⟩
    replace HB := ext_trans HB hb5
    go_wp2_with fail
    refine (awake_calls _).mono ?_
    rintro _ w6 ⟨_, rfl, hb6, rfl⟩
    go_wp2
    go_ret
    exact .mk (ext_trans HB hb6) rfl
end Go.Proofs.Ytijmjliijjkcbaa
