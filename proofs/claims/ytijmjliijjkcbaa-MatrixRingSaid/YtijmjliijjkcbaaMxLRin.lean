/- The walk of MatrixRing. Printed by com5law.py. -/
import Derived.Test.YtijmjliijjkcbaaMxRing
import Derived.Test.YtijmjliijjkcbaaReg
namespace Go.Proofs.Ytijmjliijjkcbaa
set_option linter.unusedVariables false
open Go.RowKit
attribute [local go_sem ↓] Go.wp_at_zero Go.wp_at_succ

set_option maxRecDepth 100000 in
set_option maxHeartbeats 8000000 in
theorem walkMatrixRing {Sa Sb Sc : Nat → Prop} {w : World} {va vb vc : Value} {a b c : Mx} (ha : MatV Sa w va a) (hb : MatV Sb w vb b) (hc : MatV Sc w vc c) :
    Calls Try.prog 12 #[va, vb, vc] w (Post w fun _ r => r = .bool true) := by
  obtain ⟨ac, al⟩ := a
  obtain ⟨ra, rfl, laa⟩ := ha
  obtain ⟨aa, na, rfl, _⟩ := laa.form
  dsimp only at laa ⊢
  have ha : MatV Sa w (.agg #[.int .i64 ac, .slice aa al.length na]) ⟨ac, al⟩ := ⟨_, rfl, laa⟩
  clear laa
  obtain ⟨bc, bl⟩ := b
  obtain ⟨rb, rfl, lab⟩ := hb
  obtain ⟨ab, nb, rfl, _⟩ := lab.form
  dsimp only at lab ⊢
  have hb : MatV Sb w (.agg #[.int .i64 bc, .slice ab bl.length nb]) ⟨bc, bl⟩ := ⟨_, rfl, lab⟩
  clear lab
  obtain ⟨cc, cl⟩ := c
  obtain ⟨rc, rfl, lac⟩ := hc
  obtain ⟨ac_, nc, rfl, _⟩ := lac.form
  dsimp only at lac ⊢
  have hc : MatV Sc w (.agg #[.int .i64 cc, .slice ac_ cl.length nc]) ⟨cc, cl⟩ := ⟨_, rfl, lac⟩
  clear lac
  have HB := Below.refl w.heap.size w
  obtain ⟨fq, hfq⟩ : ∃ fq, (fewM ⟨ac, al⟩ && (fewM ⟨bc, bl⟩ && fewM ⟨cc, cl⟩)) = fq := ⟨_, rfl⟩
  have HF := Lib.hid hfq
  obtain ⟨eb, heb⟩ : ∃ eb, bothM ⟨ac, al⟩ ⟨bc, bl⟩ = eb := ⟨_, rfl⟩
  have HEB := Lib.hid heb
  obtain ⟨ec, hec⟩ : ∃ ec, checkM ⟨cc, cl⟩ = ec := ⟨_, rfl⟩
  have HEC := Lib.hid hec
  clear hfq heb hec
  go_enter Try.func12, Try.ntmps12
  have ex1 := ext_alloc' (ext_alloc' (ext_alloc' (ext_alloc w (.cells #[.int .i64 ac, .slice aa al.length na] 24)) (.cells #[.int .i64 bc, .slice ab bl.length nb] 24)) (.cells #[.int .i64 cc, .slice ac_ cl.length nc] 24)) (.cells #[.int .i64 ac, .slice aa al.length na, .int .i64 bc, .slice ab bl.length nb, .int .i64 cc, .slice ac_ cl.length nc] 24)
  have hax := ha.ext ex1
  have hbx := hb.ext ex1
  have hcx := hc.ext ex1
  have R0 := row_new w [.int .i64 ac, .slice aa al.length na] 24
  replace R0 := R0.ext (ext_alloc' (ext_alloc' (ext_alloc (w.alloc (.cells #[.int .i64 ac, .slice aa al.length na] 24)) (.cells #[.int .i64 bc, .slice ab bl.length nb] 24)) (.cells #[.int .i64 cc, .slice ac_ cl.length nc] 24)) (.cells #[.int .i64 ac, .slice aa al.length na, .int .i64 bc, .slice ab bl.length nb, .int .i64 cc, .slice ac_ cl.length nc] 24))
  have R1 := row_new (w.alloc (.cells #[.int .i64 ac, .slice aa al.length na] 24)) [.int .i64 bc, .slice ab bl.length nb] 24
  replace R1 := R1.ext (ext_alloc' (ext_alloc ((w.alloc (.cells #[.int .i64 ac, .slice aa al.length na] 24)).alloc (.cells #[.int .i64 bc, .slice ab bl.length nb] 24)) (.cells #[.int .i64 cc, .slice ac_ cl.length nc] 24)) (.cells #[.int .i64 ac, .slice aa al.length na, .int .i64 bc, .slice ab bl.length nb, .int .i64 cc, .slice ac_ cl.length nc] 24))
  simp only [World.size_alloc] at R1
  have R2 := row_new ((w.alloc (.cells #[.int .i64 ac, .slice aa al.length na] 24)).alloc (.cells #[.int .i64 bc, .slice ab bl.length nb] 24)) [.int .i64 cc, .slice ac_ cl.length nc] 24
  replace R2 := R2.ext (ext_alloc (((w.alloc (.cells #[.int .i64 ac, .slice aa al.length na] 24)).alloc (.cells #[.int .i64 bc, .slice ab bl.length nb] 24)).alloc (.cells #[.int .i64 cc, .slice ac_ cl.length nc] 24)) (.cells #[.int .i64 ac, .slice aa al.length na, .int .i64 bc, .slice ab bl.length nb, .int .i64 cc, .slice ac_ cl.length nc] 24))
  simp only [World.size_alloc] at R2
  have KK := Lib.hid (few3 (q := fq) (e := 24) (ha.ext (ext_alloc' (ext_alloc' (ext_alloc w (.cells #[.int .i64 ac, .slice aa al.length na] 24)) (.cells #[.int .i64 bc, .slice ab bl.length nb] 24)) (.cells #[.int .i64 cc, .slice ac_ cl.length nc] 24))) (hb.ext (ext_alloc' (ext_alloc' (ext_alloc w (.cells #[.int .i64 ac, .slice aa al.length na] 24)) (.cells #[.int .i64 bc, .slice ab bl.length nb] 24)) (.cells #[.int .i64 cc, .slice ac_ cl.length nc] 24))) (hc.ext (ext_alloc' (ext_alloc' (ext_alloc w (.cells #[.int .i64 ac, .slice aa al.length na] 24)) (.cells #[.int .i64 bc, .slice ab bl.length nb] 24)) (.cells #[.int .i64 cc, .slice ac_ cl.length nc] 24))) (B := w.heap.size + 1 + 1 + 1) (by simp) HF.out)
  go_wp2_with fail
  refine KK.out.mono ?_
  rintro _ w1 ⟨_, rfl, hb1, rfl⟩
  clear KK
  have hy1 := ext_trans ex1 hb1
  replace ha := ha.ext hy1
  replace hb := hb.ext hy1
  replace hc := hc.ext hy1
  replace R0 := R0.ext hb1
  replace R1 := R1.ext hb1
  replace R2 := R2.ext hb1
  replace HB := ext_trans HB hy1
  clear ex1 hax hbx hcx hy1 hb1
  cases fq with
  | false =>
    go_wp2_with fail
    refine (awake_calls _).mono ?_
    rintro _ w2 ⟨_, rfl, hb2, rfl⟩
    go_wp2
    go_ret
    exact .mk (ext_trans HB hb2) rfl
  | true =>
  obtain ⟨R0a, R0b⟩ := R0.two
  obtain ⟨R1a, R1b⟩ := R1.two
  obtain ⟨R2a, R2b⟩ := R2.two
  have KK := Lib.hid (refBothP_gen ha hb HEB.out)
  go_wp2_with fail
  refine KK.out.mono ?_
  rintro _ w2 ⟨_, rfl, hb2, rfl⟩
  clear KK
  have hy2 := hb2
  replace ha := ha.ext hy2
  replace hb := hb.ext hy2
  replace hc := hc.ext hy2
  replace R0 := R0.ext hy2
  replace R1 := R1.ext hy2
  replace R2 := R2.ext hy2
  replace HB := ext_trans HB hy2
  clear R0a R0b R1a R1b R2a R2b hy2 hb2
  by_cases hq : ¬ eb = 0
  · have e1 : (eb != 0) = true := by simp [hq]
    clear hq
    go_wp2_with fail
    refine (awake_calls _).mono ?_
    rintro _ w3 ⟨_, rfl, hb3, rfl⟩
    go_wp2
    go_ret
    exact .mk (ext_trans HB hb3) rfl
  have hq := Classical.not_not.1 hq
  subst hq
  obtain ⟨R0a, R0b⟩ := R0.two
  obtain ⟨R1a, R1b⟩ := R1.two
  obtain ⟨R2a, R2b⟩ := R2.two
  have KK := Lib.hid (refCheck_gen hc HEC.out)
  go_wp2_with fail
  refine KK.out.mono ?_
  rintro _ w3 ⟨_, rfl, hb3, rfl⟩
  clear KK
  have hy3 := hb3
  replace ha := ha.ext hy3
  replace hb := hb.ext hy3
  replace hc := hc.ext hy3
  replace R0 := R0.ext hy3
  replace R1 := R1.ext hy3
  replace R2 := R2.ext hy3
  replace HB := ext_trans HB hy3
  clear R0a R0b R1a R1b R2a R2b hy3 hb3
  by_cases hq : ¬ ec = 0
  · have e1 : (ec != 0) = true := by simp [hq]
    clear hq
    go_wp2_with fail
    refine (awake_calls _).mono ?_
    rintro _ w4 ⟨_, rfl, hb4, rfl⟩
    go_wp2
    go_ret
    exact .mk (ext_trans HB hb4) rfl
  have hq := Classical.not_not.1 hq
  subst hq
  have R0p := R0.two
  have R1p := R1.two
  obtain ⟨R0a, R0b⟩ := R0p
  obtain ⟨R1a, R1b⟩ := R1p
  obtain ⟨R2a, R2b⟩ := R2.two
  by_cases hq1 : ¬ ac = (bl.length : Int)
  · have e1 : (ac != (bl.length : Int)) = true := by simp [hq1]
    clear hq1
    go_wp2_with fail
    refine (awake_calls _).mono ?_
    rintro _ w5 ⟨_, rfl, hb5, rfl⟩
    go_wp2
    go_ret
    exact .mk (ext_trans HB hb5) rfl
  have hq1 := Classical.not_not.1 hq1
  by_cases hq2 : ¬ bc = (cl.length : Int)
  · have e1 : (ac != (bl.length : Int)) = false := by simp [hq1]
    have e2 : (bc != (cl.length : Int)) = true := by simp [hq2]
    clear hq2 hq1
    go_wp2_with fail
    refine (awake_calls _).mono ?_
    rintro _ w5 ⟨_, rfl, hb5, rfl⟩
    go_wp2
    go_ret
    exact .mk (ext_trans HB hb5) rfl
  have hq2 := Classical.not_not.1 hq2
  have e1 : (ac != (bl.length : Int)) = false := by simp [hq1]
  have e2 : (bc != (cl.length : Int)) = false := by simp [hq2]
  have H1 := Lib.hid hq1
  have H2 := Lib.hid hq2
  clear hq1 hq2 R0a R0b R1a R1b R2a R2b
  have OKA := Lib.hid (checkM_zero.1 (bothM_zero.1 HEB.out).1)
  have OKB := Lib.hid (checkM_zero.1 (bothM_zero.1 HEB.out).2)
  have OKC := Lib.hid (checkM_zero.1 HEC.out)
  obtain ⟨⟨pc, pl⟩, hp⟩ : ∃ t, t = timesM (⟨ac, al⟩ : Mx) (⟨bc, bl⟩ : Mx) := ⟨_, rfl⟩
  have Ep := Lib.hid hp
  have OKp : Hid (MOk ⟨pc, pl⟩) := Lib.hid (by rw [hp]; exact times_ok OKA.out OKB.out)
  clear hp
  obtain ⟨⟨qc, ql⟩, hq⟩ : ∃ t, t = timesM (⟨bc, bl⟩ : Mx) (⟨cc, cl⟩ : Mx) := ⟨_, rfl⟩
  have Eq_ := Lib.hid hq
  have OKq : Hid (MOk ⟨qc, ql⟩) := Lib.hid (by rw [hq]; exact times_ok OKB.out OKC.out)
  clear hq
  obtain ⟨⟨xc, xl⟩, hx⟩ : ∃ t, t = timesM (⟨pc, pl⟩ : Mx) (⟨cc, cl⟩ : Mx) := ⟨_, rfl⟩
  have Ex := Lib.hid hx
  have OKx : Hid (MOk ⟨xc, xl⟩) := Lib.hid (by rw [hx]; exact times_ok OKp.out OKC.out)
  clear hx
  obtain ⟨⟨uc, ul⟩, hu⟩ : ∃ t, t = turned (⟨ac, al⟩ : Mx) := ⟨_, rfl⟩
  have Eu := Lib.hid hu
  have OKu : Hid (MOk ⟨uc, ul⟩) := Lib.hid (by rw [hu]; exact turned_ok OKA.out)
  clear hu
  obtain ⟨⟨vc, vl⟩, hv⟩ : ∃ t, t = turned (⟨bc, bl⟩ : Mx) := ⟨_, rfl⟩
  have Ev := Lib.hid hv
  have OKv : Hid (MOk ⟨vc, vl⟩) := Lib.hid (by rw [hv]; exact turned_ok OKB.out)
  clear hv
  obtain ⟨⟨yc, yl⟩, hy⟩ : ∃ t, t = timesM (⟨vc, vl⟩ : Mx) (⟨uc, ul⟩ : Mx) := ⟨_, rfl⟩
  have Ey := Lib.hid hy
  have OKy : Hid (MOk ⟨yc, yl⟩) := Lib.hid (by rw [hy]; exact times_ok OKv.out OKu.out)
  clear hy
  obtain ⟨⟨tc, tl⟩, ht⟩ : ∃ t, t = turned (⟨cc, cl⟩ : Mx) := ⟨_, rfl⟩
  have Et := Lib.hid ht
  have OKt : Hid (MOk ⟨tc, tl⟩) := Lib.hid (by rw [ht]; exact turned_ok OKC.out)
  clear ht
  obtain ⟨⟨dc, dl⟩, hd⟩ : ∃ t, t = timesM (⟨cc, cl⟩ : Mx) (⟨tc, tl⟩ : Mx) := ⟨_, rfl⟩
  have Ed := Lib.hid hd
  have OKd : Hid (MOk ⟨dc, dl⟩) := Lib.hid (by rw [hd]; exact times_ok OKC.out OKt.out)
  clear hd
  obtain ⟨⟨gc, gl⟩, hg⟩ : ∃ t, t = timesM (⟨bc, bl⟩ : Mx) (⟨dc, dl⟩ : Mx) := ⟨_, rfl⟩
  have Eg := Lib.hid hg
  have OKg : Hid (MOk ⟨gc, gl⟩) := Lib.hid (by rw [hg]; exact times_ok OKB.out OKd.out)
  clear hg
  -- the columns and rows of each
  have Cp : Hid (pc = bc) := Lib.hid (congrArg Mx.cols Ep.out)
  have Lp : Hid (pl.length = al.length) := Lib.hid (by have := congrArg (fun m => m.rows.length) Ep.out; exact this.trans (timesRows_len _ _))
  have Cq : Hid (qc = cc) := Lib.hid (congrArg Mx.cols Eq_.out)
  have Lq : Hid (ql.length = bl.length) := Lib.hid (by have := congrArg (fun m => m.rows.length) Eq_.out; exact this.trans (timesRows_len _ _))
  have Cu : Hid (uc = al.length) := Lib.hid (congrArg Mx.cols Eu.out)
  have Lu : Hid (ul.length = ac.toNat) := Lib.hid (by have := congrArg (fun m => m.rows.length) Eu.out; exact this.trans (turnedRows_length _ _))
  have Cv : Hid (vc = bl.length) := Lib.hid (congrArg Mx.cols Ev.out)
  have Lv : Hid (vl.length = bc.toNat) := Lib.hid (by have := congrArg (fun m => m.rows.length) Ev.out; exact this.trans (turnedRows_length _ _))
  have Ct : Hid (tc = cl.length) := Lib.hid (congrArg Mx.cols Et.out)
  have Lt : Hid (tl.length = cc.toNat) := Lib.hid (by have := congrArg (fun m => m.rows.length) Et.out; exact this.trans (turnedRows_length _ _))
  have Cd : Hid (dc = tc) := Lib.hid (congrArg Mx.cols Ed.out)
  have Ld : Hid (dl.length = cl.length) := Lib.hid (by have := congrArg (fun m => m.rows.length) Ed.out; exact this.trans (timesRows_len _ _))
  have Cg : Hid (gc = dc) := Lib.hid (congrArg Mx.cols Eg.out)
  have Lg : Hid (gl.length = bl.length) := Lib.hid (by have := congrArg (fun m => m.rows.length) Eg.out; exact this.trans (timesRows_len _ _))
  have za : 0 ≤ ac := OKA.out.c0
  have zb : 0 ≤ bc := OKB.out.c0
  have zc : 0 ≤ cc := OKC.out.c0
  -- what each call answers
  have Mp : Hid (mulS ⟨ac, al⟩ ⟨bc, bl⟩ = (⟨pc, pl⟩, 0)) := Lib.hid (by rw [mul_eq OKA.out OKB.out H1.out, ← Ep.out])
  have Mq : Hid (mulS ⟨bc, bl⟩ ⟨cc, cl⟩ = (⟨qc, ql⟩, 0)) := Lib.hid (by rw [mul_eq OKB.out OKC.out H2.out, ← Eq_.out])
  have Mx1 : Hid (mulS ⟨pc, pl⟩ ⟨cc, cl⟩ = (⟨xc, xl⟩, 0)) := Lib.hid (by rw [mul_eq OKp.out OKC.out (by rw [Cp.out]; exact H2.out), ← Ex.out])
  have Mx2 : Hid (mulS ⟨ac, al⟩ ⟨qc, ql⟩ = (⟨xc, xl⟩, 0)) := Lib.hid (by rw [mul_eq OKA.out OKq.out (by show ac = (ql.length : Int); rw [Lq.out]; exact H1.out), Eq_.out, ← times_assoc OKC.out, ← Ep.out, ← Ex.out])
  have Tu : Hid (transS ⟨ac, al⟩ = (⟨uc, ul⟩, 0)) := Lib.hid (by rw [trans_eq OKA.out, ← Eu.out])
  have Tv : Hid (transS ⟨bc, bl⟩ = (⟨vc, vl⟩, 0)) := Lib.hid (by rw [trans_eq OKB.out, ← Ev.out])
  have My : Hid (mulS ⟨vc, vl⟩ ⟨uc, ul⟩ = (⟨yc, yl⟩, 0)) := Lib.hid (by rw [mul_eq OKv.out OKu.out (by show vc = (ul.length : Int); rw [Cv.out, Lu.out]; have := H1.out; omega), ← Ey.out])
  have Ty : Hid (transS ⟨pc, pl⟩ = (⟨yc, yl⟩, 0)) := Lib.hid (by rw [trans_eq OKp.out, Ep.out, ← turned_times OKA.out OKB.out H1.out, ← Ev.out, ← Eu.out, ← Ey.out])
  have Tb : Hid (transS ⟨uc, ul⟩ = (⟨ac, al⟩, 0)) := Lib.hid (by rw [trans_eq OKu.out, Eu.out, turned_turned OKA.out])
  have Tt : Hid (transS ⟨cc, cl⟩ = (⟨tc, tl⟩, 0)) := Lib.hid (by rw [trans_eq OKC.out, ← Et.out])
  have Md : Hid (mulS ⟨cc, cl⟩ ⟨tc, tl⟩ = (⟨dc, dl⟩, 0)) := Lib.hid (by rw [mul_eq OKC.out OKt.out (by show cc = (tl.length : Int); rw [Lt.out]; omega), ← Ed.out])
  have Mg : Hid (mulS ⟨bc, bl⟩ ⟨dc, dl⟩ = (⟨gc, gl⟩, 0)) := Lib.hid (by rw [mul_eq OKB.out OKd.out (by show bc = (dl.length : Int); rw [Ld.out]; exact H2.out), ← Eg.out])
  have hbg : bc = gc := by rw [Cg.out, Cd.out, Ct.out]; exact H2.out
  have HBG := Lib.hid hbg
  clear hbg
  obtain ⟨⟨sc, sl⟩, hs⟩ : ∃ t, t = addM (⟨bc, bl⟩ : Mx) (⟨gc, gl⟩ : Mx) := ⟨_, rfl⟩
  have Es := Lib.hid hs
  have OKs : Hid (MOk ⟨sc, sl⟩) := Lib.hid (by rw [hs]; exact add_ok OKB.out OKg.out HBG.out Lg.out.symm)
  clear hs
  obtain ⟨⟨nc_, nl_⟩, hn⟩ : ∃ t, t = timesM (⟨ac, al⟩ : Mx) (⟨gc, gl⟩ : Mx) := ⟨_, rfl⟩
  have En := Lib.hid hn
  have OKn : Hid (MOk ⟨nc_, nl_⟩) := Lib.hid (by rw [hn]; exact times_ok OKA.out OKg.out)
  clear hn
  obtain ⟨⟨lc, ll⟩, hl⟩ : ∃ t, t = timesM (⟨ac, al⟩ : Mx) (⟨sc, sl⟩ : Mx) := ⟨_, rfl⟩
  have El := Lib.hid hl
  have OKl : Hid (MOk ⟨lc, ll⟩) := Lib.hid (by rw [hl]; exact times_ok OKA.out OKs.out)
  clear hl
  have Ls : Hid (sl.length = bl.length) := Lib.hid (by have := congrArg (fun m => m.rows.length) Es.out; exact this.trans (addRows_length Lg.out.symm))
  have Cn : Hid (nc_ = gc) := Lib.hid (congrArg Mx.cols En.out)
  have Ln : Hid (nl_.length = al.length) := Lib.hid (by have := congrArg (fun m => m.rows.length) En.out; exact this.trans (timesRows_len _ _))
  have As : Hid (addS ⟨bc, bl⟩ ⟨gc, gl⟩ = (⟨sc, sl⟩, 0)) := Lib.hid (by rw [add_eq OKB.out OKg.out HBG.out Lg.out.symm, ← Es.out])
  have Ml : Hid (mulS ⟨ac, al⟩ ⟨sc, sl⟩ = (⟨lc, ll⟩, 0)) := Lib.hid (by rw [mul_eq OKA.out OKs.out (by show ac = (sl.length : Int); rw [Ls.out]; exact H1.out), ← El.out])
  have Mn : Hid (mulS ⟨ac, al⟩ ⟨gc, gl⟩ = (⟨nc_, nl_⟩, 0)) := Lib.hid (by rw [mul_eq OKA.out OKg.out (by show ac = (gl.length : Int); rw [Lg.out]; exact H1.out), ← En.out])
  have Ar : Hid (addS ⟨pc, pl⟩ ⟨nc_, nl_⟩ = (⟨lc, ll⟩, 0)) := Lib.hid (by
    rw [add_eq OKp.out OKn.out (by show pc = nc_; rw [Cp.out, Cn.out]; exact HBG.out) (by show pl.length = nl_.length; rw [Lp.out, Ln.out]), Ep.out, En.out, ← times_add OKB.out OKg.out HBG.out Lg.out.symm, ← Es.out, ← El.out])
  obtain ⟨R0a, R0b⟩ := R0.two
  obtain ⟨R1a, R1b⟩ := R1.two
  obtain ⟨R2a, R2b⟩ := R2.two
  have KK := Lib.hid (mulP_gen ha hb Mp.out)
  go_wp2_with fail
  refine KK.out.mono ?_
  rintro _ w4 ⟨_, rfl, hb4, pAB, kAB, rfl, hAB⟩
  clear KK
  have hy4 := hb4
  replace ha := ha.ext hy4
  replace hb := hb.ext hy4
  replace hc := hc.ext hy4
  replace R0 := R0.ext hy4
  replace R1 := R1.ext hy4
  replace R2 := R2.ext hy4
  replace HB := ext_trans HB hy4
  clear R0a R0b R1a R1b R2a R2b hy4 hb4
  have ex5 := ext_alloc w4 (.cells #[.int .i64 pc, .slice pAB pl.length kAB] 24)
  have hax := ha.ext ex5
  have hbx := hb.ext ex5
  have hcx := hc.ext ex5
  have hABx := hAB.ext ex5
  obtain ⟨R1a, R1b⟩ := R1.two
  obtain ⟨R1y1a, R1y1b⟩ := (R1.ext (ext_alloc w4 (.cells #[.int .i64 pc, .slice pAB pl.length kAB] 24))).two
  obtain ⟨R2a, R2b⟩ := R2.two
  obtain ⟨R2y1a, R2y1b⟩ := (R2.ext (ext_alloc w4 (.cells #[.int .i64 pc, .slice pAB pl.length kAB] 24))).two
  have RAB := row_new w4 [.int .i64 pc, .slice pAB pl.length kAB] 24
  have KK := Lib.hid (mulP_gen hbx hcx Mq.out)
  go_wp2_with fail
  refine KK.out.mono ?_
  rintro _ w5 ⟨_, rfl, hb5, pBC, kBC, rfl, hBC⟩
  clear KK
  have hy5 := ext_trans ex5 hb5
  replace ha := ha.ext hy5
  replace hb := hb.ext hy5
  replace hc := hc.ext hy5
  replace hAB := hAB.ext hy5
  replace R0 := R0.ext hy5
  replace R1 := R1.ext hy5
  replace R2 := R2.ext hy5
  replace RAB := RAB.ext hb5
  replace HB := ext_trans HB hy5
  clear ex5 hax hbx hcx hABx R1a R1b R1y1a R1y1b R2a R2b R2y1a R2y1b hy5 hb5
  have ex6 := ext_alloc w5 (.cells #[.int .i64 qc, .slice pBC ql.length kBC] 24)
  have hax := ha.ext ex6
  have hbx := hb.ext ex6
  have hcx := hc.ext ex6
  have hABx := hAB.ext ex6
  have hBCx := hBC.ext ex6
  obtain ⟨R2a, R2b⟩ := R2.two
  obtain ⟨R2y1a, R2y1b⟩ := (R2.ext (ext_alloc w5 (.cells #[.int .i64 qc, .slice pBC ql.length kBC] 24))).two
  obtain ⟨RABa, RABb⟩ := RAB.two
  obtain ⟨RABy1a, RABy1b⟩ := (RAB.ext (ext_alloc w5 (.cells #[.int .i64 qc, .slice pBC ql.length kBC] 24))).two
  have RBC := row_new w5 [.int .i64 qc, .slice pBC ql.length kBC] 24
  have KK := Lib.hid (mulP_gen hABx hcx Mx1.out)
  go_wp2_with fail
  refine KK.out.mono ?_
  rintro _ w6 ⟨_, rfl, hb6, pX, kX, rfl, hX⟩
  clear KK
  have hy6 := ext_trans ex6 hb6
  replace ha := ha.ext hy6
  replace hb := hb.ext hy6
  replace hc := hc.ext hy6
  replace hAB := hAB.ext hy6
  replace hBC := hBC.ext hy6
  replace R0 := R0.ext hy6
  replace R1 := R1.ext hy6
  replace R2 := R2.ext hy6
  replace RAB := RAB.ext hy6
  replace RBC := RBC.ext hb6
  replace HB := ext_trans HB hy6
  clear ex6 hax hbx hcx hABx hBCx R2a R2b R2y1a R2y1b RABa RABb RABy1a RABy1b hy6 hb6
  have ex7 := ext_alloc w6 (.cells #[.int .i64 xc, .slice pX xl.length kX] 24)
  have hax := ha.ext ex7
  have hbx := hb.ext ex7
  have hcx := hc.ext ex7
  have hABx := hAB.ext ex7
  have hBCx := hBC.ext ex7
  have hXx := hX.ext ex7
  obtain ⟨R0a, R0b⟩ := R0.two
  obtain ⟨R0y1a, R0y1b⟩ := (R0.ext (ext_alloc w6 (.cells #[.int .i64 xc, .slice pX xl.length kX] 24))).two
  obtain ⟨RBCa, RBCb⟩ := RBC.two
  obtain ⟨RBCy1a, RBCy1b⟩ := (RBC.ext (ext_alloc w6 (.cells #[.int .i64 xc, .slice pX xl.length kX] 24))).two
  have RX := row_new w6 [.int .i64 xc, .slice pX xl.length kX] 24
  have KK := Lib.hid (mulP_gen hax hBCx Mx2.out)
  go_wp2_with fail
  refine KK.out.mono ?_
  rintro _ w7 ⟨_, rfl, hb7, pY, kY, rfl, hY⟩
  clear KK
  have hy7 := ext_trans ex7 hb7
  replace ha := ha.ext hy7
  replace hb := hb.ext hy7
  replace hc := hc.ext hy7
  replace hAB := hAB.ext hy7
  replace hBC := hBC.ext hy7
  replace hX := hX.ext hy7
  replace R0 := R0.ext hy7
  replace R1 := R1.ext hy7
  replace R2 := R2.ext hy7
  replace RAB := RAB.ext hy7
  replace RBC := RBC.ext hy7
  replace RX := RX.ext hb7
  replace HB := ext_trans HB hy7
  clear ex7 hax hbx hcx hABx hBCx hXx R0a R0b R0y1a R0y1b RBCa RBCb RBCy1a RBCy1b hy7 hb7
  have ex8 := ext_alloc w7 (.cells #[.int .i64 xc, .slice pY xl.length kY] 24)
  have hax := ha.ext ex8
  have hbx := hb.ext ex8
  have hcx := hc.ext ex8
  have hABx := hAB.ext ex8
  have hBCx := hBC.ext ex8
  have hXx := hX.ext ex8
  have hYx := hY.ext ex8
  obtain ⟨RXa, RXb⟩ := RX.two
  obtain ⟨RXy1a, RXy1b⟩ := (RX.ext (ext_alloc w7 (.cells #[.int .i64 xc, .slice pY xl.length kY] 24))).two
  have RY := row_new w7 [.int .i64 xc, .slice pY xl.length kY] 24
  have KK := Lib.hid (sameM_lit hXx hYx rfl)
  go_wp2_with fail
  refine KK.out.mono ?_
  rintro _ w8 ⟨_, rfl, hb8, rfl⟩
  clear KK
  have hy8 := ext_trans ex8 hb8
  replace ha := ha.ext hy8
  replace hb := hb.ext hy8
  replace hc := hc.ext hy8
  replace hAB := hAB.ext hy8
  replace hBC := hBC.ext hy8
  replace hX := hX.ext hy8
  replace hY := hY.ext hy8
  replace R0 := R0.ext hy8
  replace R1 := R1.ext hy8
  replace R2 := R2.ext hy8
  replace RAB := RAB.ext hy8
  replace RBC := RBC.ext hy8
  replace RX := RX.ext hy8
  replace RY := RY.ext hb8
  replace HB := ext_trans HB hy8
  clear ex8 hax hbx hcx hABx hBCx hXx hYx RXa RXb RXy1a RXy1b hy8 hb8
  obtain ⟨R0a, R0b⟩ := R0.two
  have KK := Lib.hid (transP_gen ha Tu.out)
  go_wp2_with fail
  refine KK.out.mono ?_
  rintro _ w9 ⟨_, rfl, hb9, pAT, kAT, rfl, hAT⟩
  clear KK
  have hy9 := hb9
  replace ha := ha.ext hy9
  replace hb := hb.ext hy9
  replace hc := hc.ext hy9
  replace hAB := hAB.ext hy9
  replace hBC := hBC.ext hy9
  replace hX := hX.ext hy9
  replace hY := hY.ext hy9
  replace R0 := R0.ext hy9
  replace R1 := R1.ext hy9
  replace R2 := R2.ext hy9
  replace RAB := RAB.ext hy9
  replace RBC := RBC.ext hy9
  replace RX := RX.ext hy9
  replace RY := RY.ext hy9
  replace HB := ext_trans HB hy9
  clear R0a R0b hy9 hb9
  have ex10 := ext_alloc w9 (.cells #[.int .i64 uc, .slice pAT ul.length kAT] 24)
  have hax := ha.ext ex10
  have hbx := hb.ext ex10
  have hcx := hc.ext ex10
  have hABx := hAB.ext ex10
  have hBCx := hBC.ext ex10
  have hXx := hX.ext ex10
  have hYx := hY.ext ex10
  have hATx := hAT.ext ex10
  obtain ⟨R1a, R1b⟩ := R1.two
  obtain ⟨R1y1a, R1y1b⟩ := (R1.ext (ext_alloc w9 (.cells #[.int .i64 uc, .slice pAT ul.length kAT] 24))).two
  have RAT := row_new w9 [.int .i64 uc, .slice pAT ul.length kAT] 24
  have KK := Lib.hid (transP_gen hbx Tv.out)
  go_wp2_with fail
  refine KK.out.mono ?_
  rintro _ w10 ⟨_, rfl, hb10, pBT, kBT, rfl, hBT⟩
  clear KK
  have hy10 := ext_trans ex10 hb10
  replace ha := ha.ext hy10
  replace hb := hb.ext hy10
  replace hc := hc.ext hy10
  replace hAB := hAB.ext hy10
  replace hBC := hBC.ext hy10
  replace hX := hX.ext hy10
  replace hY := hY.ext hy10
  replace hAT := hAT.ext hy10
  replace R0 := R0.ext hy10
  replace R1 := R1.ext hy10
  replace R2 := R2.ext hy10
  replace RAB := RAB.ext hy10
  replace RBC := RBC.ext hy10
  replace RX := RX.ext hy10
  replace RY := RY.ext hy10
  replace RAT := RAT.ext hb10
  replace HB := ext_trans HB hy10
  clear ex10 hax hbx hcx hABx hBCx hXx hYx hATx R1a R1b R1y1a R1y1b hy10 hb10
  have ex11 := ext_alloc w10 (.cells #[.int .i64 vc, .slice pBT vl.length kBT] 24)
  have hax := ha.ext ex11
  have hbx := hb.ext ex11
  have hcx := hc.ext ex11
  have hABx := hAB.ext ex11
  have hBCx := hBC.ext ex11
  have hXx := hX.ext ex11
  have hYx := hY.ext ex11
  have hATx := hAT.ext ex11
  have hBTx := hBT.ext ex11
  obtain ⟨RATa, RATb⟩ := RAT.two
  obtain ⟨RATy1a, RATy1b⟩ := (RAT.ext (ext_alloc w10 (.cells #[.int .i64 vc, .slice pBT vl.length kBT] 24))).two
  have RBT := row_new w10 [.int .i64 vc, .slice pBT vl.length kBT] 24
  have KK := Lib.hid (mulP_gen hBTx hATx My.out)
  go_wp2_with fail
  refine KK.out.mono ?_
  rintro _ w11 ⟨_, rfl, hb11, pBA, kBA, rfl, hBA⟩
  clear KK
  have hy11 := ext_trans ex11 hb11
  replace ha := ha.ext hy11
  replace hb := hb.ext hy11
  replace hc := hc.ext hy11
  replace hAB := hAB.ext hy11
  replace hBC := hBC.ext hy11
  replace hX := hX.ext hy11
  replace hY := hY.ext hy11
  replace hAT := hAT.ext hy11
  replace hBT := hBT.ext hy11
  replace R0 := R0.ext hy11
  replace R1 := R1.ext hy11
  replace R2 := R2.ext hy11
  replace RAB := RAB.ext hy11
  replace RBC := RBC.ext hy11
  replace RX := RX.ext hy11
  replace RY := RY.ext hy11
  replace RAT := RAT.ext hy11
  replace RBT := RBT.ext hb11
  replace HB := ext_trans HB hy11
  clear ex11 hax hbx hcx hABx hBCx hXx hYx hATx hBTx RATa RATb RATy1a RATy1b hy11 hb11
  have ex12 := ext_alloc w11 (.cells #[.int .i64 yc, .slice pBA yl.length kBA] 24)
  have hax := ha.ext ex12
  have hbx := hb.ext ex12
  have hcx := hc.ext ex12
  have hABx := hAB.ext ex12
  have hBCx := hBC.ext ex12
  have hXx := hX.ext ex12
  have hYx := hY.ext ex12
  have hATx := hAT.ext ex12
  have hBTx := hBT.ext ex12
  have hBAx := hBA.ext ex12
  obtain ⟨RABa, RABb⟩ := RAB.two
  obtain ⟨RABy1a, RABy1b⟩ := (RAB.ext (ext_alloc w11 (.cells #[.int .i64 yc, .slice pBA yl.length kBA] 24))).two
  have RBA := row_new w11 [.int .i64 yc, .slice pBA yl.length kBA] 24
  have KK := Lib.hid (transP_gen hABx Ty.out)
  go_wp2_with fail
  refine KK.out.mono ?_
  rintro _ w12 ⟨_, rfl, hb12, pABT, kABT, rfl, hABT⟩
  clear KK
  have hy12 := ext_trans ex12 hb12
  replace ha := ha.ext hy12
  replace hb := hb.ext hy12
  replace hc := hc.ext hy12
  replace hAB := hAB.ext hy12
  replace hBC := hBC.ext hy12
  replace hX := hX.ext hy12
  replace hY := hY.ext hy12
  replace hAT := hAT.ext hy12
  replace hBT := hBT.ext hy12
  replace hBA := hBA.ext hy12
  replace R0 := R0.ext hy12
  replace R1 := R1.ext hy12
  replace R2 := R2.ext hy12
  replace RAB := RAB.ext hy12
  replace RBC := RBC.ext hy12
  replace RX := RX.ext hy12
  replace RY := RY.ext hy12
  replace RAT := RAT.ext hy12
  replace RBT := RBT.ext hy12
  replace RBA := RBA.ext hb12
  replace HB := ext_trans HB hy12
  clear ex12 hax hbx hcx hABx hBCx hXx hYx hATx hBTx hBAx RABa RABb RABy1a RABy1b hy12 hb12
  have ex13 := ext_alloc w12 (.cells #[.int .i64 yc, .slice pABT yl.length kABT] 24)
  have hax := ha.ext ex13
  have hbx := hb.ext ex13
  have hcx := hc.ext ex13
  have hABx := hAB.ext ex13
  have hBCx := hBC.ext ex13
  have hXx := hX.ext ex13
  have hYx := hY.ext ex13
  have hATx := hAT.ext ex13
  have hBTx := hBT.ext ex13
  have hBAx := hBA.ext ex13
  have hABTx := hABT.ext ex13
  obtain ⟨RATa, RATb⟩ := RAT.two
  obtain ⟨RATy1a, RATy1b⟩ := (RAT.ext (ext_alloc w12 (.cells #[.int .i64 yc, .slice pABT yl.length kABT] 24))).two
  have RABT := row_new w12 [.int .i64 yc, .slice pABT yl.length kABT] 24
  have KK := Lib.hid (transP_gen hATx Tb.out)
  go_wp2_with fail
  refine KK.out.mono ?_
  rintro _ w13 ⟨_, rfl, hb13, pBK, kBK, rfl, hBK⟩
  clear KK
  have hy13 := ext_trans ex13 hb13
  replace ha := ha.ext hy13
  replace hb := hb.ext hy13
  replace hc := hc.ext hy13
  replace hAB := hAB.ext hy13
  replace hBC := hBC.ext hy13
  replace hX := hX.ext hy13
  replace hY := hY.ext hy13
  replace hAT := hAT.ext hy13
  replace hBT := hBT.ext hy13
  replace hBA := hBA.ext hy13
  replace hABT := hABT.ext hy13
  replace R0 := R0.ext hy13
  replace R1 := R1.ext hy13
  replace R2 := R2.ext hy13
  replace RAB := RAB.ext hy13
  replace RBC := RBC.ext hy13
  replace RX := RX.ext hy13
  replace RY := RY.ext hy13
  replace RAT := RAT.ext hy13
  replace RBT := RBT.ext hy13
  replace RBA := RBA.ext hy13
  replace RABT := RABT.ext hb13
  replace HB := ext_trans HB hy13
  clear ex13 hax hbx hcx hABx hBCx hXx hYx hATx hBTx hBAx hABTx RATa RATb RATy1a RATy1b hy13 hb13
  have ex14 := ext_alloc w13 (.cells #[.int .i64 ac, .slice pBK al.length kBK] 24)
  have hax := ha.ext ex14
  have hbx := hb.ext ex14
  have hcx := hc.ext ex14
  have hABx := hAB.ext ex14
  have hBCx := hBC.ext ex14
  have hXx := hX.ext ex14
  have hYx := hY.ext ex14
  have hATx := hAT.ext ex14
  have hBTx := hBT.ext ex14
  have hBAx := hBA.ext ex14
  have hABTx := hABT.ext ex14
  have hBKx := hBK.ext ex14
  obtain ⟨RBAa, RBAb⟩ := RBA.two
  obtain ⟨RBAy1a, RBAy1b⟩ := (RBA.ext (ext_alloc w13 (.cells #[.int .i64 ac, .slice pBK al.length kBK] 24))).two
  obtain ⟨RABTa, RABTb⟩ := RABT.two
  obtain ⟨RABTy1a, RABTy1b⟩ := (RABT.ext (ext_alloc w13 (.cells #[.int .i64 ac, .slice pBK al.length kBK] 24))).two
  have RBK := row_new w13 [.int .i64 ac, .slice pBK al.length kBK] 24
  have KK := Lib.hid (sameM_lit hBAx hABTx rfl)
  go_wp2_with fail
  refine KK.out.mono ?_
  rintro _ w14 ⟨_, rfl, hb14, rfl⟩
  clear KK
  have hy14 := ext_trans ex14 hb14
  replace ha := ha.ext hy14
  replace hb := hb.ext hy14
  replace hc := hc.ext hy14
  replace hAB := hAB.ext hy14
  replace hBC := hBC.ext hy14
  replace hX := hX.ext hy14
  replace hY := hY.ext hy14
  replace hAT := hAT.ext hy14
  replace hBT := hBT.ext hy14
  replace hBA := hBA.ext hy14
  replace hABT := hABT.ext hy14
  replace hBK := hBK.ext hy14
  replace R0 := R0.ext hy14
  replace R1 := R1.ext hy14
  replace R2 := R2.ext hy14
  replace RAB := RAB.ext hy14
  replace RBC := RBC.ext hy14
  replace RX := RX.ext hy14
  replace RY := RY.ext hy14
  replace RAT := RAT.ext hy14
  replace RBT := RBT.ext hy14
  replace RBA := RBA.ext hy14
  replace RABT := RABT.ext hy14
  replace RBK := RBK.ext hb14
  replace HB := ext_trans HB hy14
  clear ex14 hax hbx hcx hABx hBCx hXx hYx hATx hBTx hBAx hABTx hBKx RBAa RBAb RBAy1a RBAy1b RABTa RABTb RABTy1a RABTy1b hy14 hb14
  obtain ⟨R0a, R0b⟩ := R0.two
  obtain ⟨RBKa, RBKb⟩ := RBK.two
  have KK := Lib.hid (sameM_lit hBK ha rfl)
  go_wp2_with fail
  refine KK.out.mono ?_
  rintro _ w15 ⟨_, rfl, hb15, rfl⟩
  clear KK
  have hy15 := hb15
  replace ha := ha.ext hy15
  replace hb := hb.ext hy15
  replace hc := hc.ext hy15
  replace hAB := hAB.ext hy15
  replace hBC := hBC.ext hy15
  replace hX := hX.ext hy15
  replace hY := hY.ext hy15
  replace hAT := hAT.ext hy15
  replace hBT := hBT.ext hy15
  replace hBA := hBA.ext hy15
  replace hABT := hABT.ext hy15
  replace hBK := hBK.ext hy15
  replace R0 := R0.ext hy15
  replace R1 := R1.ext hy15
  replace R2 := R2.ext hy15
  replace RAB := RAB.ext hy15
  replace RBC := RBC.ext hy15
  replace RX := RX.ext hy15
  replace RY := RY.ext hy15
  replace RAT := RAT.ext hy15
  replace RBT := RBT.ext hy15
  replace RBA := RBA.ext hy15
  replace RABT := RABT.ext hy15
  replace RBK := RBK.ext hy15
  replace HB := ext_trans HB hy15
  clear R0a R0b RBKa RBKb hy15 hb15
  obtain ⟨R2a, R2b⟩ := R2.two
  have KK := Lib.hid (transP_gen hc Tt.out)
  go_wp2_with fail
  refine KK.out.mono ?_
  rintro _ w16 ⟨_, rfl, hb16, pCT, kCT, rfl, hCT⟩
  clear KK
  have hy16 := hb16
  replace ha := ha.ext hy16
  replace hb := hb.ext hy16
  replace hc := hc.ext hy16
  replace hAB := hAB.ext hy16
  replace hBC := hBC.ext hy16
  replace hX := hX.ext hy16
  replace hY := hY.ext hy16
  replace hAT := hAT.ext hy16
  replace hBT := hBT.ext hy16
  replace hBA := hBA.ext hy16
  replace hABT := hABT.ext hy16
  replace hBK := hBK.ext hy16
  replace R0 := R0.ext hy16
  replace R1 := R1.ext hy16
  replace R2 := R2.ext hy16
  replace RAB := RAB.ext hy16
  replace RBC := RBC.ext hy16
  replace RX := RX.ext hy16
  replace RY := RY.ext hy16
  replace RAT := RAT.ext hy16
  replace RBT := RBT.ext hy16
  replace RBA := RBA.ext hy16
  replace RABT := RABT.ext hy16
  replace RBK := RBK.ext hy16
  replace HB := ext_trans HB hy16
  clear R2a R2b hy16 hb16
  have ex17 := ext_alloc w16 (.cells #[.int .i64 tc, .slice pCT tl.length kCT] 24)
  have hax := ha.ext ex17
  have hbx := hb.ext ex17
  have hcx := hc.ext ex17
  have hABx := hAB.ext ex17
  have hBCx := hBC.ext ex17
  have hXx := hX.ext ex17
  have hYx := hY.ext ex17
  have hATx := hAT.ext ex17
  have hBTx := hBT.ext ex17
  have hBAx := hBA.ext ex17
  have hABTx := hABT.ext ex17
  have hBKx := hBK.ext ex17
  have hCTx := hCT.ext ex17
  obtain ⟨R2a, R2b⟩ := R2.two
  obtain ⟨R2y1a, R2y1b⟩ := (R2.ext (ext_alloc w16 (.cells #[.int .i64 tc, .slice pCT tl.length kCT] 24))).two
  have RCT := row_new w16 [.int .i64 tc, .slice pCT tl.length kCT] 24
  have KK := Lib.hid (mulP_gen hcx hCTx Md.out)
  go_wp2_with fail
  refine KK.out.mono ?_
  rintro _ w17 ⟨_, rfl, hb17, pD, kD, rfl, hD⟩
  clear KK
  have hy17 := ext_trans ex17 hb17
  replace ha := ha.ext hy17
  replace hb := hb.ext hy17
  replace hc := hc.ext hy17
  replace hAB := hAB.ext hy17
  replace hBC := hBC.ext hy17
  replace hX := hX.ext hy17
  replace hY := hY.ext hy17
  replace hAT := hAT.ext hy17
  replace hBT := hBT.ext hy17
  replace hBA := hBA.ext hy17
  replace hABT := hABT.ext hy17
  replace hBK := hBK.ext hy17
  replace hCT := hCT.ext hy17
  replace R0 := R0.ext hy17
  replace R1 := R1.ext hy17
  replace R2 := R2.ext hy17
  replace RAB := RAB.ext hy17
  replace RBC := RBC.ext hy17
  replace RX := RX.ext hy17
  replace RY := RY.ext hy17
  replace RAT := RAT.ext hy17
  replace RBT := RBT.ext hy17
  replace RBA := RBA.ext hy17
  replace RABT := RABT.ext hy17
  replace RBK := RBK.ext hy17
  replace RCT := RCT.ext hb17
  replace HB := ext_trans HB hy17
  clear ex17 hax hbx hcx hABx hBCx hXx hYx hATx hBTx hBAx hABTx hBKx hCTx R2a R2b R2y1a R2y1b hy17 hb17
  have ex18 := ext_alloc w17 (.cells #[.int .i64 dc, .slice pD dl.length kD] 24)
  have hax := ha.ext ex18
  have hbx := hb.ext ex18
  have hcx := hc.ext ex18
  have hABx := hAB.ext ex18
  have hBCx := hBC.ext ex18
  have hXx := hX.ext ex18
  have hYx := hY.ext ex18
  have hATx := hAT.ext ex18
  have hBTx := hBT.ext ex18
  have hBAx := hBA.ext ex18
  have hABTx := hABT.ext ex18
  have hBKx := hBK.ext ex18
  have hCTx := hCT.ext ex18
  have hDx := hD.ext ex18
  obtain ⟨R1a, R1b⟩ := R1.two
  obtain ⟨R1y1a, R1y1b⟩ := (R1.ext (ext_alloc w17 (.cells #[.int .i64 dc, .slice pD dl.length kD] 24))).two
  have RD := row_new w17 [.int .i64 dc, .slice pD dl.length kD] 24
  have KK := Lib.hid (mulP_gen hbx hDx Mg.out)
  go_wp2_with fail
  refine KK.out.mono ?_
  rintro _ w18 ⟨_, rfl, hb18, pBD, kBD, rfl, hBD⟩
  clear KK
  have hy18 := ext_trans ex18 hb18
  replace ha := ha.ext hy18
  replace hb := hb.ext hy18
  replace hc := hc.ext hy18
  replace hAB := hAB.ext hy18
  replace hBC := hBC.ext hy18
  replace hX := hX.ext hy18
  replace hY := hY.ext hy18
  replace hAT := hAT.ext hy18
  replace hBT := hBT.ext hy18
  replace hBA := hBA.ext hy18
  replace hABT := hABT.ext hy18
  replace hBK := hBK.ext hy18
  replace hCT := hCT.ext hy18
  replace hD := hD.ext hy18
  replace R0 := R0.ext hy18
  replace R1 := R1.ext hy18
  replace R2 := R2.ext hy18
  replace RAB := RAB.ext hy18
  replace RBC := RBC.ext hy18
  replace RX := RX.ext hy18
  replace RY := RY.ext hy18
  replace RAT := RAT.ext hy18
  replace RBT := RBT.ext hy18
  replace RBA := RBA.ext hy18
  replace RABT := RABT.ext hy18
  replace RBK := RBK.ext hy18
  replace RCT := RCT.ext hy18
  replace RD := RD.ext hb18
  replace HB := ext_trans HB hy18
  clear ex18 hax hbx hcx hABx hBCx hXx hYx hATx hBTx hBAx hABTx hBKx hCTx hDx R1a R1b R1y1a R1y1b hy18 hb18
  have ex19 := ext_alloc w18 (.cells #[.int .i64 gc, .slice pBD gl.length kBD] 24)
  have hax := ha.ext ex19
  have hbx := hb.ext ex19
  have hcx := hc.ext ex19
  have hABx := hAB.ext ex19
  have hBCx := hBC.ext ex19
  have hXx := hX.ext ex19
  have hYx := hY.ext ex19
  have hATx := hAT.ext ex19
  have hBTx := hBT.ext ex19
  have hBAx := hBA.ext ex19
  have hABTx := hABT.ext ex19
  have hBKx := hBK.ext ex19
  have hCTx := hCT.ext ex19
  have hDx := hD.ext ex19
  have hBDx := hBD.ext ex19
  obtain ⟨R1a, R1b⟩ := R1.two
  obtain ⟨R1y1a, R1y1b⟩ := (R1.ext (ext_alloc w18 (.cells #[.int .i64 gc, .slice pBD gl.length kBD] 24))).two
  have RBD := row_new w18 [.int .i64 gc, .slice pBD gl.length kBD] 24
  have KK := Lib.hid (addP_gen hbx hBDx As.out)
  go_wp2_with fail
  refine KK.out.mono ?_
  rintro _ w19 ⟨_, rfl, hb19, pSUM, kSUM, rfl, hSUM⟩
  clear KK
  have hy19 := ext_trans ex19 hb19
  replace ha := ha.ext hy19
  replace hb := hb.ext hy19
  replace hc := hc.ext hy19
  replace hAB := hAB.ext hy19
  replace hBC := hBC.ext hy19
  replace hX := hX.ext hy19
  replace hY := hY.ext hy19
  replace hAT := hAT.ext hy19
  replace hBT := hBT.ext hy19
  replace hBA := hBA.ext hy19
  replace hABT := hABT.ext hy19
  replace hBK := hBK.ext hy19
  replace hCT := hCT.ext hy19
  replace hD := hD.ext hy19
  replace hBD := hBD.ext hy19
  replace R0 := R0.ext hy19
  replace R1 := R1.ext hy19
  replace R2 := R2.ext hy19
  replace RAB := RAB.ext hy19
  replace RBC := RBC.ext hy19
  replace RX := RX.ext hy19
  replace RY := RY.ext hy19
  replace RAT := RAT.ext hy19
  replace RBT := RBT.ext hy19
  replace RBA := RBA.ext hy19
  replace RABT := RABT.ext hy19
  replace RBK := RBK.ext hy19
  replace RCT := RCT.ext hy19
  replace RD := RD.ext hy19
  replace RBD := RBD.ext hb19
  replace HB := ext_trans HB hy19
  clear ex19 hax hbx hcx hABx hBCx hXx hYx hATx hBTx hBAx hABTx hBKx hCTx hDx hBDx R1a R1b R1y1a R1y1b hy19 hb19
  have ex20 := ext_alloc w19 (.cells #[.int .i64 sc, .slice pSUM sl.length kSUM] 24)
  have hax := ha.ext ex20
  have hbx := hb.ext ex20
  have hcx := hc.ext ex20
  have hABx := hAB.ext ex20
  have hBCx := hBC.ext ex20
  have hXx := hX.ext ex20
  have hYx := hY.ext ex20
  have hATx := hAT.ext ex20
  have hBTx := hBT.ext ex20
  have hBAx := hBA.ext ex20
  have hABTx := hABT.ext ex20
  have hBKx := hBK.ext ex20
  have hCTx := hCT.ext ex20
  have hDx := hD.ext ex20
  have hBDx := hBD.ext ex20
  have hSUMx := hSUM.ext ex20
  obtain ⟨R0a, R0b⟩ := R0.two
  obtain ⟨R0y1a, R0y1b⟩ := (R0.ext (ext_alloc w19 (.cells #[.int .i64 sc, .slice pSUM sl.length kSUM] 24))).two
  have RSUM := row_new w19 [.int .i64 sc, .slice pSUM sl.length kSUM] 24
  have KK := Lib.hid (mulP_gen hax hSUMx Ml.out)
  go_wp2_with fail
  refine KK.out.mono ?_
  rintro _ w20 ⟨_, rfl, hb20, pLF, kLF, rfl, hLF⟩
  clear KK
  have hy20 := ext_trans ex20 hb20
  replace ha := ha.ext hy20
  replace hb := hb.ext hy20
  replace hc := hc.ext hy20
  replace hAB := hAB.ext hy20
  replace hBC := hBC.ext hy20
  replace hX := hX.ext hy20
  replace hY := hY.ext hy20
  replace hAT := hAT.ext hy20
  replace hBT := hBT.ext hy20
  replace hBA := hBA.ext hy20
  replace hABT := hABT.ext hy20
  replace hBK := hBK.ext hy20
  replace hCT := hCT.ext hy20
  replace hD := hD.ext hy20
  replace hBD := hBD.ext hy20
  replace hSUM := hSUM.ext hy20
  replace R0 := R0.ext hy20
  replace R1 := R1.ext hy20
  replace R2 := R2.ext hy20
  replace RAB := RAB.ext hy20
  replace RBC := RBC.ext hy20
  replace RX := RX.ext hy20
  replace RY := RY.ext hy20
  replace RAT := RAT.ext hy20
  replace RBT := RBT.ext hy20
  replace RBA := RBA.ext hy20
  replace RABT := RABT.ext hy20
  replace RBK := RBK.ext hy20
  replace RCT := RCT.ext hy20
  replace RD := RD.ext hy20
  replace RBD := RBD.ext hy20
  replace RSUM := RSUM.ext hb20
  replace HB := ext_trans HB hy20
  clear ex20 hax hbx hcx hABx hBCx hXx hYx hATx hBTx hBAx hABTx hBKx hCTx hDx hBDx hSUMx R0a R0b R0y1a R0y1b hy20 hb20
  have ex21 := ext_alloc w20 (.cells #[.int .i64 lc, .slice pLF ll.length kLF] 24)
  have hax := ha.ext ex21
  have hbx := hb.ext ex21
  have hcx := hc.ext ex21
  have hABx := hAB.ext ex21
  have hBCx := hBC.ext ex21
  have hXx := hX.ext ex21
  have hYx := hY.ext ex21
  have hATx := hAT.ext ex21
  have hBTx := hBT.ext ex21
  have hBAx := hBA.ext ex21
  have hABTx := hABT.ext ex21
  have hBKx := hBK.ext ex21
  have hCTx := hCT.ext ex21
  have hDx := hD.ext ex21
  have hBDx := hBD.ext ex21
  have hSUMx := hSUM.ext ex21
  have hLFx := hLF.ext ex21
  obtain ⟨R0a, R0b⟩ := R0.two
  obtain ⟨R0y1a, R0y1b⟩ := (R0.ext (ext_alloc w20 (.cells #[.int .i64 lc, .slice pLF ll.length kLF] 24))).two
  obtain ⟨RBDa, RBDb⟩ := RBD.two
  obtain ⟨RBDy1a, RBDy1b⟩ := (RBD.ext (ext_alloc w20 (.cells #[.int .i64 lc, .slice pLF ll.length kLF] 24))).two
  have RLF := row_new w20 [.int .i64 lc, .slice pLF ll.length kLF] 24
  have KK := Lib.hid (mulP_gen hax hBDx Mn.out)
  go_wp2_with fail
  refine KK.out.mono ?_
  rintro _ w21 ⟨_, rfl, hb21, pABD, kABD, rfl, hABD⟩
  clear KK
  have hy21 := ext_trans ex21 hb21
  replace ha := ha.ext hy21
  replace hb := hb.ext hy21
  replace hc := hc.ext hy21
  replace hAB := hAB.ext hy21
  replace hBC := hBC.ext hy21
  replace hX := hX.ext hy21
  replace hY := hY.ext hy21
  replace hAT := hAT.ext hy21
  replace hBT := hBT.ext hy21
  replace hBA := hBA.ext hy21
  replace hABT := hABT.ext hy21
  replace hBK := hBK.ext hy21
  replace hCT := hCT.ext hy21
  replace hD := hD.ext hy21
  replace hBD := hBD.ext hy21
  replace hSUM := hSUM.ext hy21
  replace hLF := hLF.ext hy21
  replace R0 := R0.ext hy21
  replace R1 := R1.ext hy21
  replace R2 := R2.ext hy21
  replace RAB := RAB.ext hy21
  replace RBC := RBC.ext hy21
  replace RX := RX.ext hy21
  replace RY := RY.ext hy21
  replace RAT := RAT.ext hy21
  replace RBT := RBT.ext hy21
  replace RBA := RBA.ext hy21
  replace RABT := RABT.ext hy21
  replace RBK := RBK.ext hy21
  replace RCT := RCT.ext hy21
  replace RD := RD.ext hy21
  replace RBD := RBD.ext hy21
  replace RSUM := RSUM.ext hy21
  replace RLF := RLF.ext hb21
  replace HB := ext_trans HB hy21
  clear ex21 hax hbx hcx hABx hBCx hXx hYx hATx hBTx hBAx hABTx hBKx hCTx hDx hBDx hSUMx hLFx R0a R0b R0y1a R0y1b RBDa RBDb RBDy1a RBDy1b hy21 hb21
  have ex22 := ext_alloc w21 (.cells #[.int .i64 nc_, .slice pABD nl_.length kABD] 24)
  have hax := ha.ext ex22
  have hbx := hb.ext ex22
  have hcx := hc.ext ex22
  have hABx := hAB.ext ex22
  have hBCx := hBC.ext ex22
  have hXx := hX.ext ex22
  have hYx := hY.ext ex22
  have hATx := hAT.ext ex22
  have hBTx := hBT.ext ex22
  have hBAx := hBA.ext ex22
  have hABTx := hABT.ext ex22
  have hBKx := hBK.ext ex22
  have hCTx := hCT.ext ex22
  have hDx := hD.ext ex22
  have hBDx := hBD.ext ex22
  have hSUMx := hSUM.ext ex22
  have hLFx := hLF.ext ex22
  have hABDx := hABD.ext ex22
  obtain ⟨RABa, RABb⟩ := RAB.two
  obtain ⟨RABy1a, RABy1b⟩ := (RAB.ext (ext_alloc w21 (.cells #[.int .i64 nc_, .slice pABD nl_.length kABD] 24))).two
  have RABD := row_new w21 [.int .i64 nc_, .slice pABD nl_.length kABD] 24
  have KK := Lib.hid (addP_gen hABx hABDx Ar.out)
  go_wp2_with fail
  refine KK.out.mono ?_
  rintro _ w22 ⟨_, rfl, hb22, pRT, kRT, rfl, hRT⟩
  clear KK
  have hy22 := ext_trans ex22 hb22
  replace ha := ha.ext hy22
  replace hb := hb.ext hy22
  replace hc := hc.ext hy22
  replace hAB := hAB.ext hy22
  replace hBC := hBC.ext hy22
  replace hX := hX.ext hy22
  replace hY := hY.ext hy22
  replace hAT := hAT.ext hy22
  replace hBT := hBT.ext hy22
  replace hBA := hBA.ext hy22
  replace hABT := hABT.ext hy22
  replace hBK := hBK.ext hy22
  replace hCT := hCT.ext hy22
  replace hD := hD.ext hy22
  replace hBD := hBD.ext hy22
  replace hSUM := hSUM.ext hy22
  replace hLF := hLF.ext hy22
  replace hABD := hABD.ext hy22
  replace R0 := R0.ext hy22
  replace R1 := R1.ext hy22
  replace R2 := R2.ext hy22
  replace RAB := RAB.ext hy22
  replace RBC := RBC.ext hy22
  replace RX := RX.ext hy22
  replace RY := RY.ext hy22
  replace RAT := RAT.ext hy22
  replace RBT := RBT.ext hy22
  replace RBA := RBA.ext hy22
  replace RABT := RABT.ext hy22
  replace RBK := RBK.ext hy22
  replace RCT := RCT.ext hy22
  replace RD := RD.ext hy22
  replace RBD := RBD.ext hy22
  replace RSUM := RSUM.ext hy22
  replace RLF := RLF.ext hy22
  replace RABD := RABD.ext hb22
  replace HB := ext_trans HB hy22
  clear ex22 hax hbx hcx hABx hBCx hXx hYx hATx hBTx hBAx hABTx hBKx hCTx hDx hBDx hSUMx hLFx hABDx RABa RABb RABy1a RABy1b hy22 hb22
  go_upto_region 23 with fail
  obtain ⟨w23, hw23⟩ : ∃ w23 : World, w23 = (w22.alloc (.cells #[.int .i64 lc, .slice pRT ll.length kRT] 24)) := ⟨_, rfl⟩
  rw [← hw23]
  have hy23 : Below w22.heap.size w22 w23 := by rw [hw23]; exact ext_alloc w22 (.cells #[.int .i64 lc, .slice pRT ll.length kRT] 24)
  have RRT := row_new w22 [.int .i64 lc, .slice pRT ll.length kRT] 24
  rw [← hw23] at RRT
  try simp only [World.size_alloc] at RRT
  replace ha := ha.ext hy23
  replace hb := hb.ext hy23
  replace hc := hc.ext hy23
  replace hAB := hAB.ext hy23
  replace hBC := hBC.ext hy23
  replace hX := hX.ext hy23
  replace hY := hY.ext hy23
  replace hAT := hAT.ext hy23
  replace hBT := hBT.ext hy23
  replace hBA := hBA.ext hy23
  replace hABT := hABT.ext hy23
  replace hBK := hBK.ext hy23
  replace hCT := hCT.ext hy23
  replace hD := hD.ext hy23
  replace hBD := hBD.ext hy23
  replace hSUM := hSUM.ext hy23
  replace hLF := hLF.ext hy23
  replace hABD := hABD.ext hy23
  replace hRT := hRT.ext hy23
  replace R0 := R0.ext hy23
  replace R1 := R1.ext hy23
  replace R2 := R2.ext hy23
  replace RAB := RAB.ext hy23
  replace RBC := RBC.ext hy23
  replace RX := RX.ext hy23
  replace RY := RY.ext hy23
  replace RAT := RAT.ext hy23
  replace RBT := RBT.ext hy23
  replace RBA := RBA.ext hy23
  replace RABT := RABT.ext hy23
  replace RBK := RBK.ext hy23
  replace RCT := RCT.ext hy23
  replace RD := RD.ext hy23
  replace RBD := RBD.ext hy23
  replace RSUM := RSUM.ext hy23
  replace RLF := RLF.ext hy23
  replace RABD := RABD.ext hy23
  replace HB := ext_trans HB hy23
  clear hw23 hy23
  have KK := Lib.hid (awake_calls w23)
  go_wp2_with fail
  refine KK.out.mono ?_
  rintro _ w24 ⟨_, rfl, hb24, rfl⟩
  clear KK
  have hy24 := hb24
  replace ha := ha.ext hy24
  replace hb := hb.ext hy24
  replace hc := hc.ext hy24
  replace hAB := hAB.ext hy24
  replace hBC := hBC.ext hy24
  replace hX := hX.ext hy24
  replace hY := hY.ext hy24
  replace hAT := hAT.ext hy24
  replace hBT := hBT.ext hy24
  replace hBA := hBA.ext hy24
  replace hABT := hABT.ext hy24
  replace hBK := hBK.ext hy24
  replace hCT := hCT.ext hy24
  replace hD := hD.ext hy24
  replace hBD := hBD.ext hy24
  replace hSUM := hSUM.ext hy24
  replace hLF := hLF.ext hy24
  replace hABD := hABD.ext hy24
  replace hRT := hRT.ext hy24
  replace R0 := R0.ext hy24
  replace R1 := R1.ext hy24
  replace R2 := R2.ext hy24
  replace RAB := RAB.ext hy24
  replace RBC := RBC.ext hy24
  replace RX := RX.ext hy24
  replace RY := RY.ext hy24
  replace RAT := RAT.ext hy24
  replace RBT := RBT.ext hy24
  replace RBA := RBA.ext hy24
  replace RABT := RABT.ext hy24
  replace RBK := RBK.ext hy24
  replace RCT := RCT.ext hy24
  replace RD := RD.ext hy24
  replace RBD := RBD.ext hy24
  replace RSUM := RSUM.ext hy24
  replace RLF := RLF.ext hy24
  replace RABD := RABD.ext hy24
  replace RRT := RRT.ext hy24
  replace HB := ext_trans HB hy24
  clear hy24 hb24
  obtain ⟨RLFa, RLFb⟩ := RLF.two
  obtain ⟨RRTa, RRTb⟩ := RRT.two
  have KK := Lib.hid (sameM_lit hLF hRT rfl)
  go_wp2_with fail
  refine KK.out.mono ?_
  rintro _ w25 ⟨_, rfl, hb25, rfl⟩
  clear KK
  have hy25 := hb25
  replace ha := ha.ext hy25
  replace hb := hb.ext hy25
  replace hc := hc.ext hy25
  replace hAB := hAB.ext hy25
  replace hBC := hBC.ext hy25
  replace hX := hX.ext hy25
  replace hY := hY.ext hy25
  replace hAT := hAT.ext hy25
  replace hBT := hBT.ext hy25
  replace hBA := hBA.ext hy25
  replace hABT := hABT.ext hy25
  replace hBK := hBK.ext hy25
  replace hCT := hCT.ext hy25
  replace hD := hD.ext hy25
  replace hBD := hBD.ext hy25
  replace hSUM := hSUM.ext hy25
  replace hLF := hLF.ext hy25
  replace hABD := hABD.ext hy25
  replace hRT := hRT.ext hy25
  replace R0 := R0.ext hy25
  replace R1 := R1.ext hy25
  replace R2 := R2.ext hy25
  replace RAB := RAB.ext hy25
  replace RBC := RBC.ext hy25
  replace RX := RX.ext hy25
  replace RY := RY.ext hy25
  replace RAT := RAT.ext hy25
  replace RBT := RBT.ext hy25
  replace RBA := RBA.ext hy25
  replace RABT := RABT.ext hy25
  replace RBK := RBK.ext hy25
  replace RCT := RCT.ext hy25
  replace RD := RD.ext hy25
  replace RBD := RBD.ext hy25
  replace RSUM := RSUM.ext hy25
  replace RLF := RLF.ext hy25
  replace RABD := RABD.ext hy25
  replace RRT := RRT.ext hy25
  replace HB := ext_trans HB hy25
  clear RLFa RLFb RRTa RRTb hy25 hb25
  go_wp2
  go_ret
  exact .mk HB rfl
end Go.Proofs.Ytijmjliijjkcbaa