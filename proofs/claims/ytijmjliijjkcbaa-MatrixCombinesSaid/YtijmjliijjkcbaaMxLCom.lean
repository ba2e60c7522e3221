/- The walk of MatrixCombines. Printed by com5law.py. -/
import Derived.Test.YtijmjliijjkcbaaMxRing
import Derived.Test.YtijmjliijjkcbaaReg
namespace Go.Proofs.Ytijmjliijjkcbaa
set_option linter.unusedVariables false
open Go.RowKit
attribute [local go_sem ↓] Go.wp_at_zero Go.wp_at_succ

set_option maxRecDepth 100000 in
set_option maxHeartbeats 8000000 in
theorem walkMatrixCombines {Sa Sb : Nat → Prop} {w : World} {va vb : Value} {a b : Mx} (ha : MatV Sa w va a) (hb : MatV Sb w vb b) :
    Calls Try.prog 11 #[va, vb] w (Post w fun _ r => r = .bool true) := by
  obtain ⟨ac, al⟩ := a
  obtain ⟨ra, rfl, laa⟩ := ha
  obtain ⟨aa, na, rfl, _⟩ := laa.form
  dsimp only at laa ⊢
  have ha : MatV Sa w (.agg #[.int .i64 ac, .slice aa al.length na]) ⟨ac, al⟩ := ⟨_, rfl, laa⟩
  clear laa
  obtain ⟨bc, bl⟩ := b
  obtain ⟨rb, rfl, lab⟩ := hb
  obtain ⟨ab, nb, rfl, _⟩ := lab.form
  dsimp only at lab ⊢
  have hb : MatV Sb w (.agg #[.int .i64 bc, .slice ab bl.length nb]) ⟨bc, bl⟩ := ⟨_, rfl, lab⟩
  clear lab
  have HB := Below.refl w.heap.size w
  have HT := Lib.hid (⟨_, rfl⟩ : ∃ t, t = addS ⟨ac, al⟩ ⟨bc, bl⟩)
  obtain ⟨⟨⟨sc, sl⟩, se⟩, hT⟩ := HT.out
  have HS := Lib.hid hT
  clear HT hT
  have HT := Lib.hid (⟨_, rfl⟩ : ∃ t, t = mulS ⟨ac, al⟩ ⟨bc, bl⟩)
  obtain ⟨⟨⟨pc, pl⟩, pe⟩, hT⟩ := HT.out
  have HP := Lib.hid hT
  clear HT hT
  obtain ⟨fq, hfq⟩ : ∃ fq, (fewM ⟨ac, al⟩ && fewM ⟨bc, bl⟩) = fq := ⟨_, rfl⟩
  have HF := Lib.hid hfq
  clear hfq
  go_enter Try.func11, Try.ntmps11
  have ex1 := ext_alloc' (ext_alloc' (ext_alloc w (.cells #[.int .i64 ac, .slice aa al.length na] 24)) (.cells #[.int .i64 bc, .slice ab bl.length nb] 24)) (.cells #[.int .i64 ac, .slice aa al.length na, .int .i64 bc, .slice ab bl.length nb] 24)
  have hax := ha.ext ex1
  have hbx := hb.ext ex1
  have R0 := row_new w [.int .i64 ac, .slice aa al.length na] 24
  replace R0 := R0.ext (ext_alloc' (ext_alloc (w.alloc (.cells #[.int .i64 ac, .slice aa al.length na] 24)) (.cells #[.int .i64 bc, .slice ab bl.length nb] 24)) (.cells #[.int .i64 ac, .slice aa al.length na, .int .i64 bc, .slice ab bl.length nb] 24))
  have R1 := row_new (w.alloc (.cells #[.int .i64 ac, .slice aa al.length na] 24)) [.int .i64 bc, .slice ab bl.length nb] 24
  replace R1 := R1.ext (ext_alloc ((w.alloc (.cells #[.int .i64 ac, .slice aa al.length na] 24)).alloc (.cells #[.int .i64 bc, .slice ab bl.length nb] 24)) (.cells #[.int .i64 ac, .slice aa al.length na, .int .i64 bc, .slice ab bl.length nb] 24))
  simp only [World.size_alloc] at R1
  have KK := Lib.hid (few2 (q := fq) (e := 24) (ha.ext (ext_alloc' (ext_alloc w (.cells #[.int .i64 ac, .slice aa al.length na] 24)) (.cells #[.int .i64 bc, .slice ab bl.length nb] 24))) (hb.ext (ext_alloc' (ext_alloc w (.cells #[.int .i64 ac, .slice aa al.length na] 24)) (.cells #[.int .i64 bc, .slice ab bl.length nb] 24))) (B := w.heap.size + 1 + 1) (by simp) HF.out)
  go_wp2_with fail
  refine KK.out.mono ?_
  rintro _ w1 ⟨_, rfl, hb1, rfl⟩
  clear KK
  have hy1 := ext_trans ex1 hb1
  replace ha := ha.ext hy1
  replace hb := hb.ext hy1
  replace R0 := R0.ext hb1
  replace R1 := R1.ext hb1
  replace HB := ext_trans HB hy1
  clear ex1 hax hbx hy1 hb1
  cases fq with
  | false =>
    go_wp2_with fail
    refine (awake_calls _).mono ?_
    rintro _ w2 ⟨_, rfl, hb2, rfl⟩
    go_wp2
    go_ret
    exact .mk (ext_trans HB hb2) rfl
  | true =>
  obtain ⟨R0a, R0b⟩ := R0.two
  obtain ⟨R1a, R1b⟩ := R1.two
  have KK := Lib.hid (addP_gen ha hb HS.out.symm)
  go_wp2_with fail
  refine KK.out.mono ?_
  rintro _ w2 ⟨_, rfl, hb2, sa, sn, rfl, h1⟩
  clear KK
  have hy2 := hb2
  replace ha := ha.ext hy2
  replace hb := hb.ext hy2
  replace R0 := R0.ext hy2
  replace R1 := R1.ext hy2
  replace HB := ext_trans HB hy2
  clear R0a R0b R1a R1b hy2 hb2
  have ex3 := ext_alloc w2 (.cells #[.int .i64 sc, .slice sa sl.length sn] 24)
  have hax := ha.ext ex3
  have hbx := hb.ext ex3
  have h1x := h1.ext ex3
  obtain ⟨R0a, R0b⟩ := R0.two
  obtain ⟨R0y1a, R0y1b⟩ := (R0.ext (ext_alloc w2 (.cells #[.int .i64 sc, .slice sa sl.length sn] 24))).two
  obtain ⟨R1a, R1b⟩ := R1.two
  obtain ⟨R1y1a, R1y1b⟩ := (R1.ext (ext_alloc w2 (.cells #[.int .i64 sc, .slice sa sl.length sn] 24))).two
  have R2 := row_new w2 [.int .i64 sc, .slice sa sl.length sn] 24
  have KK := Lib.hid (refAddP_gen hax hbx HS.out.symm)
  go_wp2_with fail
  refine KK.out.mono ?_
  rintro _ w3 ⟨_, rfl, hb3, ta, tn, rfl, h2⟩
  clear KK
  have hy3 := ext_trans ex3 hb3
  replace ha := ha.ext hy3
  replace hb := hb.ext hy3
  replace h1 := h1.ext hy3
  replace R0 := R0.ext hy3
  replace R1 := R1.ext hy3
  replace R2 := R2.ext hb3
  replace HB := ext_trans HB hy3
  clear ex3 hax hbx h1x R0a R0b R0y1a R0y1b R1a R1b R1y1a R1y1b hy3 hb3
  have ex4 := ext_alloc w3 (.cells #[.int .i64 sc, .slice ta sl.length tn] 24)
  have hax := ha.ext ex4
  have hbx := hb.ext ex4
  have h1x := h1.ext ex4
  have h2x := h2.ext ex4
  obtain ⟨R0a, R0b⟩ := R0.two
  obtain ⟨R0y1a, R0y1b⟩ := (R0.ext (ext_alloc w3 (.cells #[.int .i64 sc, .slice ta sl.length tn] 24))).two
  obtain ⟨R1a, R1b⟩ := R1.two
  obtain ⟨R1y1a, R1y1b⟩ := (R1.ext (ext_alloc w3 (.cells #[.int .i64 sc, .slice ta sl.length tn] 24))).two
  obtain ⟨R2a, R2b⟩ := R2.two
  obtain ⟨R2y1a, R2y1b⟩ := (R2.ext (ext_alloc w3 (.cells #[.int .i64 sc, .slice ta sl.length tn] 24))).two
  have R3 := row_new w3 [.int .i64 sc, .slice ta sl.length tn] 24
  have KK := Lib.hid (mulP_gen hax hbx HP.out.symm)
  go_wp2_with fail
  refine KK.out.mono ?_
  rintro _ w4 ⟨_, rfl, hb4, pa, pn, rfl, h3⟩
  clear KK
  have hy4 := ext_trans ex4 hb4
  replace ha := ha.ext hy4
  replace hb := hb.ext hy4
  replace h1 := h1.ext hy4
  replace h2 := h2.ext hy4
  replace R0 := R0.ext hy4
  replace R1 := R1.ext hy4
  replace R2 := R2.ext hy4
  replace R3 := R3.ext hb4
  replace HB := ext_trans HB hy4
  clear ex4 hax hbx h1x h2x R0a R0b R0y1a R0y1b R1a R1b R1y1a R1y1b R2a R2b R2y1a R2y1b hy4 hb4
  have ex5 := ext_alloc w4 (.cells #[.int .i64 pc, .slice pa pl.length pn] 24)
  have hax := ha.ext ex5
  have hbx := hb.ext ex5
  have h1x := h1.ext ex5
  have h2x := h2.ext ex5
  have h3x := h3.ext ex5
  obtain ⟨R0a, R0b⟩ := R0.two
  obtain ⟨R0y1a, R0y1b⟩ := (R0.ext (ext_alloc w4 (.cells #[.int .i64 pc, .slice pa pl.length pn] 24))).two
  obtain ⟨R1a, R1b⟩ := R1.two
  obtain ⟨R1y1a, R1y1b⟩ := (R1.ext (ext_alloc w4 (.cells #[.int .i64 pc, .slice pa pl.length pn] 24))).two
  obtain ⟨R2a, R2b⟩ := R2.two
  obtain ⟨R2y1a, R2y1b⟩ := (R2.ext (ext_alloc w4 (.cells #[.int .i64 pc, .slice pa pl.length pn] 24))).two
  obtain ⟨R3a, R3b⟩ := R3.two
  obtain ⟨R3y1a, R3y1b⟩ := (R3.ext (ext_alloc w4 (.cells #[.int .i64 pc, .slice pa pl.length pn] 24))).two
  have R4 := row_new w4 [.int .i64 pc, .slice pa pl.length pn] 24
  have KK := Lib.hid (refMulP_gen hax hbx HP.out.symm)
  go_wp2_with fail
  refine KK.out.mono ?_
  rintro _ w5 ⟨_, rfl, hb5, qa, qn, rfl, h4⟩
  clear KK
  have hy5 := ext_trans ex5 hb5
  replace ha := ha.ext hy5
  replace hb := hb.ext hy5
  replace h1 := h1.ext hy5
  replace h2 := h2.ext hy5
  replace h3 := h3.ext hy5
  replace R0 := R0.ext hy5
  replace R1 := R1.ext hy5
  replace R2 := R2.ext hy5
  replace R3 := R3.ext hy5
  replace R4 := R4.ext hb5
  replace HB := ext_trans HB hy5
  clear ex5 hax hbx h1x h2x h3x R0a R0b R0y1a R0y1b R1a R1b R1y1a R1y1b R2a R2b R2y1a R2y1b R3a R3b R3y1a R3y1b hy5 hb5
  go_upto_region 7 with fail
  obtain ⟨w6, hw6⟩ : ∃ w6 : World, w6 = (w5.alloc (.cells #[.int .i64 pc, .slice qa pl.length qn] 24)) := ⟨_, rfl⟩
  rw [← hw6]
  have hy6 : Below w5.heap.size w5 w6 := by rw [hw6]; exact ext_alloc w5 (.cells #[.int .i64 pc, .slice qa pl.length qn] 24)
  have R5 := row_new w5 [.int .i64 pc, .slice qa pl.length qn] 24
  rw [← hw6] at R5
  try simp only [World.size_alloc] at R5
  replace ha := ha.ext hy6
  replace hb := hb.ext hy6
  replace h1 := h1.ext hy6
  replace h2 := h2.ext hy6
  replace h3 := h3.ext hy6
  replace h4 := h4.ext hy6
  replace R0 := R0.ext hy6
  replace R1 := R1.ext hy6
  replace R2 := R2.ext hy6
  replace R3 := R3.ext hy6
  replace R4 := R4.ext hy6
  replace HB := ext_trans HB hy6
  clear hw6 hy6
  obtain ⟨R0a, R0b⟩ := R0.two
  obtain ⟨R1a, R1b⟩ := R1.two
  obtain ⟨R2a, R2b⟩ := R2.two
  obtain ⟨R3a, R3b⟩ := R3.two
  obtain ⟨R4a, R4b⟩ := R4.two
  obtain ⟨R5a, R5b⟩ := R5.two
  have KK := Lib.hid (awake_calls w6)
  go_wp2_with fail
  refine KK.out.mono ?_
  rintro _ w7 ⟨_, rfl, hb7, rfl⟩
  clear KK
  have hy7 := hb7
  replace ha := ha.ext hy7
  replace hb := hb.ext hy7
  replace h1 := h1.ext hy7
  replace h2 := h2.ext hy7
  replace h3 := h3.ext hy7
  replace h4 := h4.ext hy7
  replace R0 := R0.ext hy7
  replace R1 := R1.ext hy7
  replace R2 := R2.ext hy7
  replace R3 := R3.ext hy7
  replace R4 := R4.ext hy7
  replace R5 := R5.ext hy7
  replace HB := ext_trans HB hy7
  clear R0a R0b R1a R1b R2a R2b R3a R3b R4a R4b R5a R5b hy7 hb7
  obtain ⟨R0a, R0b⟩ := R0.two
  obtain ⟨R1a, R1b⟩ := R1.two
  obtain ⟨R2a, R2b⟩ := R2.two
  obtain ⟨R3a, R3b⟩ := R3.two
  obtain ⟨R4a, R4b⟩ := R4.two
  obtain ⟨R5a, R5b⟩ := R5.two
  have KK := Lib.hid (sameM_lit h1 h2 rfl)
  go_wp2_with fail
  refine KK.out.mono ?_
  rintro _ w8 ⟨_, rfl, hb8, rfl⟩
  clear KK
  have hy8 := hb8
  replace ha := ha.ext hy8
  replace hb := hb.ext hy8
  replace h1 := h1.ext hy8
  replace h2 := h2.ext hy8
  replace h3 := h3.ext hy8
  replace h4 := h4.ext hy8
  replace R0 := R0.ext hy8
  replace R1 := R1.ext hy8
  replace R2 := R2.ext hy8
  replace R3 := R3.ext hy8
  replace R4 := R4.ext hy8
  replace R5 := R5.ext hy8
  replace HB := ext_trans HB hy8
  clear R0a R0b R1a R1b R2a R2b R3a R3b R4a R4b R5a R5b hy8 hb8
  obtain ⟨R0a, R0b⟩ := R0.two
  obtain ⟨R1a, R1b⟩ := R1.two
  obtain ⟨R2a, R2b⟩ := R2.two
  obtain ⟨R3a, R3b⟩ := R3.two
  obtain ⟨R4a, R4b⟩ := R4.two
  obtain ⟨R5a, R5b⟩ := R5.two
  have KK := Lib.hid (sameM_lit h3 h4 rfl)
  go_wp2_with fail
  refine KK.out.mono ?_
  rintro _ w9 ⟨_, rfl, hb9, rfl⟩
  clear KK
  have hy9 := hb9
  replace ha := ha.ext hy9
  replace hb := hb.ext hy9
  replace h1 := h1.ext hy9
  replace h2 := h2.ext hy9
  replace h3 := h3.ext hy9
  replace h4 := h4.ext hy9
  replace R0 := R0.ext hy9
  replace R1 := R1.ext hy9
  replace R2 := R2.ext hy9
  replace R3 := R3.ext hy9
  replace R4 := R4.ext hy9
  replace R5 := R5.ext hy9
  replace HB := ext_trans HB hy9
  clear R0a R0b R1a R1b R2a R2b R3a R3b R4a R4b R5a R5b hy9 hb9
  go_wp2
  go_ret
  exact .mk HB rfl
end Go.Proofs.Ytijmjliijjkcbaa