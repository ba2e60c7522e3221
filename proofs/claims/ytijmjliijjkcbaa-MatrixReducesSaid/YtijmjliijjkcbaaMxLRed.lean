/- The walk of MatrixReduces. Printed by red5law.py. -/
import Derived.Test.YtijmjliijjkcbaaMxLaw1
import Derived.Test.YtijmjliijjkcbaaReg
namespace Go.Proofs.Ytijmjliijjkcbaa
set_option linter.unusedVariables false
open Go.RowKit
attribute [local go_sem ↓] Go.wp_at_zero Go.wp_at_succ

set_option maxRecDepth 100000 in
set_option maxHeartbeats 4000000 in
theorem walkMatrixReduces {Sm : Nat → Prop} {w : World} {vm : Value} {m : Mx} (hm : MatV Sm w vm m) :
    Calls Try.prog 3 #[vm] w (Post w fun _ r => r = .bool true) := by
  obtain ⟨cols, ll⟩ := m
  obtain ⟨rm, rfl, lam⟩ := hm
  obtain ⟨am, nm, rfl, _⟩ := lam.form
  dsimp only at lam ⊢
  have hm : MatV Sm w (.agg #[.int .i64 cols, .slice am ll.length nm]) ⟨cols, ll⟩ := ⟨_, rfl, lam⟩
  clear lam
  have HB := Below.refl w.heap.size w
  have HT := Lib.hid (⟨_, rfl⟩ : ∃ t, t = echS ⟨cols, ll⟩)
  obtain ⟨⟨⟨ec, el⟩, ee⟩, hT⟩ := HT.out
  have HE := Lib.hid hT
  clear HT hT
  have HT := Lib.hid (⟨_, rfl⟩ : ∃ t, t = kerS ⟨cols, ll⟩)
  obtain ⟨⟨⟨kc, kl⟩, ke⟩, hT⟩ := HT.out
  have HK := Lib.hid hT
  clear HT hT
  obtain ⟨en, hen⟩ : ∃ en : Int, (el.length : Int) = en := ⟨_, rfl⟩
  have HN := Lib.hid hen
  clear hen
  go_enter Try.func3, Try.ntmps3
  have ex1 := ext_alloc' (ext_alloc w (.cells #[.int .i64 cols, .slice am ll.length nm] 24)) (.cells #[.int .i64 cols, .slice am ll.length nm] 24)
  have hmx := hm.ext ex1
  have R0 := row_new w [.int .i64 cols, .slice am ll.length nm] 24
  replace R0 := R0.ext (ext_alloc (w.alloc (.cells #[.int .i64 cols, .slice am ll.length nm] 24)) (.cells #[.int .i64 cols, .slice am ll.length nm] 24))
  have KK := Lib.hid (few1 (hm.ext (ext_alloc w (.cells #[.int .i64 cols, .slice am ll.length nm] 24))) (B := w.heap.size + 1) (e := 24) (by simp))
  go_wp2_with fail
  refine KK.out.mono ?_
  rintro _ w1 ⟨_, rfl, hb1, rfl⟩
  clear KK
  have hy1 := ext_trans ex1 hb1
  replace hm := hm.ext hy1
  replace R0 := R0.ext hb1
  replace HB := ext_trans HB hy1
  clear ex1 hmx hy1 hb1
  cases hf : fewM ⟨cols, ll⟩ with
  | false =>
    clear hf
    go_wp2_with fail
    refine (awake_calls _).mono ?_
    rintro _ w2 ⟨_, rfl, hb2, rfl⟩
    go_wp2
    go_ret
    exact .mk (ext_trans HB hb2) rfl
  | true =>
  clear hf
  obtain ⟨R0a, R0b⟩ := R0.two
  have KK := Lib.hid (ech_gen hm HE.out.symm)
  go_wp2_with fail
  refine KK.out.mono ?_
  rintro _ w2 ⟨_, rfl, hb2, ea, eu, rfl, h1⟩
  clear KK
  have hy2 := hb2
  replace hm := hm.ext hy2
  replace R0 := R0.ext hy2
  replace HB := ext_trans HB hy2
  clear R0a R0b hy2 hb2
  have ex3 := ext_alloc w2 (.cells #[.int .i64 ec, .slice ea el.length eu] 24)
  have hmx := hm.ext ex3
  have h1x := h1.ext ex3
  obtain ⟨R0a, R0b⟩ := R0.two
  obtain ⟨R0y1a, R0y1b⟩ := (R0.ext (ext_alloc w2 (.cells #[.int .i64 ec, .slice ea el.length eu] 24))).two
  have R1 := row_new w2 [.int .i64 ec, .slice ea el.length eu] 24
  have KK := Lib.hid (refEch_gen hmx HE.out.symm)
  go_wp2_with fail
  refine KK.out.mono ?_
  rintro _ w3 ⟨_, rfl, hb3, fa, fu, rfl, h2⟩
  clear KK
  have hy3 := ext_trans ex3 hb3
  replace hm := hm.ext hy3
  replace h1 := h1.ext hy3
  replace R0 := R0.ext hy3
  replace R1 := R1.ext hb3
  replace HB := ext_trans HB hy3
  clear ex3 hmx h1x R0a R0b R0y1a R0y1b hy3 hb3
  have ex4 := ext_alloc w3 (.cells #[.int .i64 ec, .slice fa el.length fu] 24)
  have hmx := hm.ext ex4
  have h1x := h1.ext ex4
  have h2x := h2.ext ex4
  obtain ⟨R0a, R0b⟩ := R0.two
  obtain ⟨R0y1a, R0y1b⟩ := (R0.ext (ext_alloc w3 (.cells #[.int .i64 ec, .slice fa el.length fu] 24))).two
  obtain ⟨R1a, R1b⟩ := R1.two
  obtain ⟨R1y1a, R1y1b⟩ := (R1.ext (ext_alloc w3 (.cells #[.int .i64 ec, .slice fa el.length fu] 24))).two
  have R2 := row_new w3 [.int .i64 ec, .slice fa el.length fu] 24
  have KK := Lib.hid (rank_gen hmx HE.out.symm HN.out)
  go_wp2_with fail
  refine KK.out.mono ?_
  rintro _ w4 ⟨_, rfl, hb4, rfl⟩
  clear KK
  have hy4 := ext_trans ex4 hb4
  replace hm := hm.ext hy4
  replace h1 := h1.ext hy4
  replace h2 := h2.ext hy4
  replace R0 := R0.ext hy4
  replace R1 := R1.ext hy4
  replace R2 := R2.ext hb4
  replace HB := ext_trans HB hy4
  clear ex4 hmx h1x h2x R0a R0b R0y1a R0y1b R1a R1b R1y1a R1y1b hy4 hb4
  obtain ⟨R0a, R0b⟩ := R0.two
  obtain ⟨R1a, R1b⟩ := R1.two
  obtain ⟨R2a, R2b⟩ := R2.two
  have KK := Lib.hid (refRank_gen hm HE.out.symm HN.out)
  go_wp2_with fail
  refine KK.out.mono ?_
  rintro _ w5 ⟨_, rfl, hb5, rfl⟩
  clear KK
  have hy5 := hb5
  replace hm := hm.ext hy5
  replace h1 := h1.ext hy5
  replace h2 := h2.ext hy5
  replace R0 := R0.ext hy5
  replace R1 := R1.ext hy5
  replace R2 := R2.ext hy5
  replace HB := ext_trans HB hy5
  clear R0a R0b R1a R1b R2a R2b hy5 hb5
  obtain ⟨R0a, R0b⟩ := R0.two
  obtain ⟨R1a, R1b⟩ := R1.two
  obtain ⟨R2a, R2b⟩ := R2.two
  have KK := Lib.hid (ker_gen hm HK.out.symm)
  go_wp2_with fail
  refine KK.out.mono ?_
  rintro _ w6 ⟨_, rfl, hb6, ka, ku, rfl, h3⟩
  clear KK
  have hy6 := hb6
  replace hm := hm.ext hy6
  replace h1 := h1.ext hy6
  replace h2 := h2.ext hy6
  replace R0 := R0.ext hy6
  replace R1 := R1.ext hy6
  replace R2 := R2.ext hy6
  replace HB := ext_trans HB hy6
  clear R0a R0b R1a R1b R2a R2b hy6 hb6
  have ex7 := ext_alloc w6 (.cells #[.int .i64 kc, .slice ka kl.length ku] 24)
  have hmx := hm.ext ex7
  have h1x := h1.ext ex7
  have h2x := h2.ext ex7
  have h3x := h3.ext ex7
  obtain ⟨R0a, R0b⟩ := R0.two
  obtain ⟨R0y1a, R0y1b⟩ := (R0.ext (ext_alloc w6 (.cells #[.int .i64 kc, .slice ka kl.length ku] 24))).two
  obtain ⟨R1a, R1b⟩ := R1.two
  obtain ⟨R1y1a, R1y1b⟩ := (R1.ext (ext_alloc w6 (.cells #[.int .i64 kc, .slice ka kl.length ku] 24))).two
  obtain ⟨R2a, R2b⟩ := R2.two
  obtain ⟨R2y1a, R2y1b⟩ := (R2.ext (ext_alloc w6 (.cells #[.int .i64 kc, .slice ka kl.length ku] 24))).two
  have R3 := row_new w6 [.int .i64 kc, .slice ka kl.length ku] 24
  have KK := Lib.hid (refKer_gen hmx HK.out.symm)
  go_wp2_with fail
  refine KK.out.mono ?_
  rintro _ w7 ⟨_, rfl, hb7, ja, ju, rfl, h4⟩
  clear KK
  have hy7 := ext_trans ex7 hb7
  replace hm := hm.ext hy7
  replace h1 := h1.ext hy7
  replace h2 := h2.ext hy7
  replace h3 := h3.ext hy7
  replace R0 := R0.ext hy7
  replace R1 := R1.ext hy7
  replace R2 := R2.ext hy7
  replace R3 := R3.ext hb7
  replace HB := ext_trans HB hy7
  clear ex7 hmx h1x h2x h3x R0a R0b R0y1a R0y1b R1a R1b R1y1a R1y1b R2a R2b R2y1a R2y1b hy7 hb7
  go_upto_region 9 with fail
  obtain ⟨w8, hw8⟩ : ∃ w8 : World, w8 = (w7.alloc (.cells #[.int .i64 kc, .slice ja kl.length ju] 24)) := ⟨_, rfl⟩
  rw [← hw8]
  have hy8 : Below w7.heap.size w7 w8 := by rw [hw8]; exact ext_alloc w7 (.cells #[.int .i64 kc, .slice ja kl.length ju] 24)
  have R4 := row_new w7 [.int .i64 kc, .slice ja kl.length ju] 24
  rw [← hw8] at R4
  try simp only [World.size_alloc] at R4
  replace hm := hm.ext hy8
  replace h1 := h1.ext hy8
  replace h2 := h2.ext hy8
  replace h3 := h3.ext hy8
  replace h4 := h4.ext hy8
  replace R0 := R0.ext hy8
  replace R1 := R1.ext hy8
  replace R2 := R2.ext hy8
  replace R3 := R3.ext hy8
  replace HB := ext_trans HB hy8
  clear hw8 hy8
  obtain ⟨R0a, R0b⟩ := R0.two
  obtain ⟨R1a, R1b⟩ := R1.two
  obtain ⟨R2a, R2b⟩ := R2.two
  obtain ⟨R3a, R3b⟩ := R3.two
  obtain ⟨R4a, R4b⟩ := R4.two
  have KK := Lib.hid (awake_calls w8)
  go_wp2_with fail
  refine KK.out.mono ?_
  rintro _ w9 ⟨_, rfl, hb9, rfl⟩
  clear KK
  have hy9 := hb9
  replace hm := hm.ext hy9
  replace h1 := h1.ext hy9
  replace h2 := h2.ext hy9
  replace h3 := h3.ext hy9
  replace h4 := h4.ext hy9
  replace R0 := R0.ext hy9
  replace R1 := R1.ext hy9
  replace R2 := R2.ext hy9
  replace R3 := R3.ext hy9
  replace R4 := R4.ext hy9
  replace HB := ext_trans HB hy9
  clear R0a R0b R1a R1b R2a R2b R3a R3b R4a R4b hy9 hb9
  obtain ⟨R0a, R0b⟩ := R0.two
  obtain ⟨R1a, R1b⟩ := R1.two
  obtain ⟨R2a, R2b⟩ := R2.two
  obtain ⟨R3a, R3b⟩ := R3.two
  obtain ⟨R4a, R4b⟩ := R4.two
  have KK := Lib.hid (sameM_lit h1 h2 rfl)
  go_wp2_with fail
  refine KK.out.mono ?_
  rintro _ w10 ⟨_, rfl, hb10, rfl⟩
  clear KK
  have hy10 := hb10
  replace hm := hm.ext hy10
  replace h1 := h1.ext hy10
  replace h2 := h2.ext hy10
  replace h3 := h3.ext hy10
  replace h4 := h4.ext hy10
  replace R0 := R0.ext hy10
  replace R1 := R1.ext hy10
  replace R2 := R2.ext hy10
  replace R3 := R3.ext hy10
  replace R4 := R4.ext hy10
  replace HB := ext_trans HB hy10
  clear R0a R0b R1a R1b R2a R2b R3a R3b R4a R4b hy10 hb10
  obtain ⟨R0a, R0b⟩ := R0.two
  obtain ⟨R1a, R1b⟩ := R1.two
  obtain ⟨R2a, R2b⟩ := R2.two
  obtain ⟨R3a, R3b⟩ := R3.two
  obtain ⟨R4a, R4b⟩ := R4.two
  have KK := Lib.hid (sameM_lit h3 h4 rfl)
  go_wp2_with fail
  refine KK.out.mono ?_
  rintro _ w11 ⟨_, rfl, hb11, rfl⟩
  clear KK
  have hy11 := hb11
  replace hm := hm.ext hy11
  replace h1 := h1.ext hy11
  replace h2 := h2.ext hy11
  replace h3 := h3.ext hy11
  replace h4 := h4.ext hy11
  replace R0 := R0.ext hy11
  replace R1 := R1.ext hy11
  replace R2 := R2.ext hy11
  replace R3 := R3.ext hy11
  replace R4 := R4.ext hy11
  replace HB := ext_trans HB hy11
  clear R0a R0b R1a R1b R2a R2b R3a R3b R4a R4b hy11 hb11
  go_wp2
  go_ret
  exact .mk HB rfl
end Go.Proofs.Ytijmjliijjkcbaa
