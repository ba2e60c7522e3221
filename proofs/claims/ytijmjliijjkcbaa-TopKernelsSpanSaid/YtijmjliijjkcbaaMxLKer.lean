/- The walk of TopKernelsSpan. Printed by sys5law.py. -/
import Derived.Test.YtijmjliijjkcbaaMxPlay
import Derived.Test.YtijmjliijjkcbaaReg
namespace Go.Proofs.Ytijmjliijjkcbaa
set_option linter.unusedVariables false
open Go.RowKit
attribute [local go_sem ↓] Go.wp_at_zero Go.wp_at_succ

set_option maxRecDepth 100000 in
set_option maxHeartbeats 8000000 in
theorem walkTopKernelsSpan {Sm Sx : Nat → Prop} {w : World} {vm vx : Value} {m : Mx} {x : List Int} (hm : MatV Sm w vm m) (hx : Ints Sx w vx x) :
    Calls Try.prog 13 #[vm, vx] w (Post w fun _ r => r = .bool true) := by
  obtain ⟨cols, ll⟩ := m
  obtain ⟨rm, rfl, lam⟩ := hm
  obtain ⟨am, nm, rfl, _⟩ := lam.form
  dsimp only at lam ⊢
  have hm : MatV Sm w (.agg #[.int .i64 cols, .slice am ll.length nm]) ⟨cols, ll⟩ := ⟨_, rfl, lam⟩
  clear lam
  obtain ⟨ax, nx, rfl, _⟩ := hx.form
  have HB := Below.refl w.heap.size w
  obtain ⟨pq, hpq⟩ : ∃ pq, (fewM ⟨cols, ll⟩ && decide (checkM ⟨cols, ll⟩ = 0)) = pq := ⟨_, rfl⟩
  have HPQ := Lib.hid hpq
  clear hpq
  obtain ⟨cx, hcx⟩ : ∃ cx, cx = vecE cols x := ⟨_, rfl⟩
  have HCx := Lib.hid hcx
  clear hcx
  go_enter Try.func13, Try.ntmps13
  have ex1 := ext_alloc w (.cells #[.int .i64 cols, .slice am ll.length nm] 24)
  have hmx := hm.ext ex1
  have hxx := hx.ext ex1
  have R0 := row_new w [.int .i64 cols, .slice am ll.length nm] 24
  have KK := Lib.hid (playAwake03_calls (w.alloc (.cells #[.int .i64 cols, .slice am ll.length nm] 24)))
  go_wp2_with fail
  refine KK.out.mono ?_
  rintro _ w1 ⟨_, rfl, hb1, rfl⟩
  clear KK
  have hy1 := ext_trans ex1 hb1
  replace hm := hm.ext hy1
  replace hx := hx.ext hy1
  replace R0 := R0.ext hb1
  replace HB := ext_trans HB hy1
  clear ex1 hmx hxx hy1 hb1
  have ex2 := ext_alloc w1 (.cells #[.int .i64 cols, .slice am ll.length nm] 24)
  have hmx := hm.ext ex2
  have hxx := hx.ext ex2
  obtain ⟨R0a, R0b⟩ := R0.two
  obtain ⟨R0y1a, R0y1b⟩ := (R0.ext (ext_alloc w1 (.cells #[.int .i64 cols, .slice am ll.length nm] 24))).two
  have KK := Lib.hid (play1 (e := 24) (hm.ext (.refl _ _)) rfl HPQ.out)
  go_wp2_with fail
  refine KK.out.mono ?_
  rintro _ w2 ⟨_, rfl, hb2, rfl⟩
  clear KK
  have hy2 := ext_trans ex2 hb2
  replace hm := hm.ext hy2
  replace hx := hx.ext hy2
  replace R0 := R0.ext hy2
  replace HB := ext_trans HB hy2
  clear ex2 hmx hxx R0a R0b R0y1a R0y1b hy2 hb2
  cases pq with
  | false =>
    go_wp2
    go_ret
    exact .mk HB rfl
  | true =>
  obtain ⟨hf, hck⟩ := Bool.and_eq_true_iff.1 HPQ.out
  have HC0 := Lib.hid (of_decide_eq_true hck)
  have OK := Lib.hid (checkM_zero.1 HC0.out)
  have hc0 : 0 ≤ cols := OK.out.c0
  have hc1 : cols ≤ 14 := (fewM_cols hf OK.out).1
  have hl1 : ll.length ≤ 14 := (fewM_cols hf OK.out).2
  clear hf hck
  by_cases hlx : 20 < x.length
  · have dx : decide (20 < x.length) = true := decide_eq_true hlx
    go_wp2
    go_ret
    exact .mk HB rfl
  have dx : decide (20 < x.length) = false := decide_eq_false hlx
  obtain ⟨R0a, R0b⟩ := R0.two
  have KK := Lib.hid (refVector_gen hx HCx.out.symm)
  go_wp2_with fail
  refine KK.out.mono ?_
  rintro _ w3 ⟨_, rfl, hb3, rfl⟩
  clear KK
  have hy3 := hb3
  replace hm := hm.ext hy3
  replace hx := hx.ext hy3
  replace R0 := R0.ext hy3
  replace HB := ext_trans HB hy3
  clear R0a R0b hy3 hb3
  by_cases hc : ¬ cx = 0
  · have e1 : (cx != 0) = true := by simp [hc]
    clear hc
    go_wp2
    go_ret
    exact .mk HB rfl
  have hc := Classical.not_not.1 hc
  subst hc
  have IX := Lib.hid (OK.out.vecC.1 HCx.out.symm)
  obtain ⟨kl, hkl⟩ : ∃ kl, kl = kerTo (rowsE ⟨cols, ll⟩) cols.toNat := ⟨_, rfl⟩
  have HK : Hid (kerS ⟨cols, ll⟩ = (⟨cols, kl⟩, 0)) := Lib.hid (by rw [kerS_ok HC0.out, hkl])
  have OKK : Hid (MOk ⟨cols, kl⟩) := Lib.hid (by rw [hkl]; exact ker_ok OK.out)
  have HKL := Lib.hid hkl
  obtain ⟨⟨tc, tl⟩, hT⟩ : ∃ t, t = turned ⟨cols, kl⟩ := ⟨_, rfl⟩
  have HT : Hid (transS ⟨cols, kl⟩ = (⟨tc, tl⟩, 0)) := Lib.hid (by rw [transS_ok (checkM_zero.2 OKK.out), hT])
  have OKT : Hid (MOk ⟨tc, tl⟩) := Lib.hid (hT ▸ turned_ok OKK.out)
  have htc : tc = kl.length := by injection hT
  have htl : tl = turnedRows cols.toNat kl := by injection hT
  have HTC := Lib.hid htc
  have HTL := Lib.hid htl
  have HTN : Hid (tl.length = cols.toNat) := Lib.hid (by rw [htl, turnedRows_length])
  obtain ⟨yv, hyv⟩ : ∃ yv, yv = imageV ll x := ⟨_, rfl⟩
  have HYV := Lib.hid hyv
  have HY : Hid (applyS ⟨cols, ll⟩ x = (yv, 0)) := Lib.hid (by rw [applyS_ok HC0.out HCx.out.symm, hyv])
  have HXT : Hid (InR tl.length x) := Lib.hid (by rw [HTN.out]; exact IX.out)
  have HKR : Hid (∀ r ∈ kl, InR cols.toNat r) := Lib.hid (fun r hr => by
    rw [hkl] at hr
    obtain ⟨c, h1, h2, rfl⟩ := mem_kerTo.1 hr
    exact ker_inR OK.out h1 h2)
  -- solvable exactly if x is mapped to nothing
  have HSP : Hid (∀ s, InR kl.length s → imageV tl s = sumRows kl s) := Lib.hid (fun s hs => by rw [htl]; exact image_turned HKR.out hs)
  have HZ : Hid (∀ s, InR kl.length s → imageV ll (sumRows kl s) = []) := Lib.hid (fun s hs => image_nil fun r hr => by
    show par _ r = false
    refine Sp.even _ (fun t ht => ?_) (rowsE_sp1 OK.out r hr)
    show oddV t (sumRows kl s) = false
    rw [oddV_comm ((rowsE_rref OK.out).ord t ht) (sumRows_ord OKK.out.ord s)]
    refine Sp.even _ (fun u hu => ?_) (sumRows_sp OKK.out.ord s)
    rw [hkl] at hu
    obtain ⟨c, h3, h4, rfl⟩ := mem_kerTo.1 hu
    show oddV _ t = false
    rw [← oddV_comm ((rowsE_rref OK.out).ord t ht) (ker_ord (rowsE_rref OK.out) h4)]
    exact ker_even (rowsE_rref OK.out) h4 ht)
  clear hkl hT htc htl hyv
  have HT := Lib.hid (⟨_, rfl⟩ : ∃ t, t = solS ⟨tc, tl⟩ x)
  obtain ⟨⟨⟨s, y⟩, ⟨q, e⟩⟩, hT⟩ := HT.out
  have HS := Lib.hid hT
  clear HT hT
  have HVX : Hid (vecE (tl.length : Int) x = 0) := Lib.hid (vecE_inR.2 HXT.out)
  have HCT : Hid (checkM ⟨tc, tl⟩ = 0) := Lib.hid (checkM_zero.2 OKT.out)
  have hez : e = 0 := by
    cases hd : solD ⟨tc, tl⟩ x with
    | none => have := HS.out; rw [solS_ok HCT.out HVX.out hd] at this; injection this with _ h; injection h
    | some d => have := HS.out; rw [solS_dep HCT.out HVX.out hd] at this; injection this with _ h; injection h
  subst hez
  have HQS : Hid (q = true → InR kl.length s ∧ imageV tl s = x) := Lib.hid (fun hq => by
    cases hd : solD ⟨tc, tl⟩ x with
    | some d => have := HS.out; rw [solS_dep HCT.out HVX.out hd] at this; injection this with _ h; injection h with h _; rw [hq] at h; cases h
    | none =>
      have := HS.out
      rw [solS_ok HCT.out HVX.out hd] at this
      injection this with h _
      injection h with h _
      have h1 := solX_inR OKT.out x
      rw [show (⟨tc, tl⟩ : Mx).cols.toNat = kl.length from by show tc.toNat = _; rw [HTC.out, Int.toNat_natCast]] at h1
      rw [h]
      exact ⟨h1, sol_image OKT.out HXT.out (solD_none hd)⟩)
  have HQY : Hid (q = decide (yv = [])) := Lib.hid (by
    cases hq : q with
    | true =>
      obtain ⟨h1, h2⟩ := HQS.out hq
      rw [HSP.out s h1] at h2
      rw [HYV.out, ← h2, HZ.out s h1]; rfl
    | false =>
      refine (decide_eq_false fun h => ?_).symm
      rw [HYV.out] at h
      obtain ⟨d, h1, h2⟩ := ker_span OK.out IX.out h
      dsimp only at h1 h2
      rw [← HKL.out] at h1 h2
      have h3 : imageV tl d = x := by rw [HSP.out d h1, h2]
      have h4 := solD_image OKT.out d
      dsimp only at h4
      rw [h3] at h4
      have := HS.out
      rw [solS_ok HCT.out HVX.out h4] at this
      injection this with _ h
      injection h with h _
      rw [hq] at h
      cases h)
  obtain ⟨R0a, R0b⟩ := R0.two
  have KK := Lib.hid (ker_gen hm HK.out)
  go_wp2_with fail
  refine KK.out.mono ?_
  rintro _ w4 ⟨_, rfl, hb4, ka, kn, rfl, hk⟩
  clear KK
  have hy4 := hb4
  replace hm := hm.ext hy4
  replace hx := hx.ext hy4
  replace R0 := R0.ext hy4
  replace HB := ext_trans HB hy4
  clear R0a R0b hy4 hb4
  have ex5 := ext_alloc w4 (.cells #[.int .i64 cols, .slice ka kl.length kn] 24)
  have hmx := hm.ext ex5
  have hxx := hx.ext ex5
  have hkx := hk.ext ex5
  obtain ⟨R0a, R0b⟩ := R0.two
  obtain ⟨R0y1a, R0y1b⟩ := (R0.ext (ext_alloc w4 (.cells #[.int .i64 cols, .slice ka kl.length kn] 24))).two
  have R1 := row_new w4 [.int .i64 cols, .slice ka kl.length kn] 24
  have KK := Lib.hid (transP_gen hkx HT.out)
  go_wp2_with fail
  refine KK.out.mono ?_
  rintro _ w5 ⟨_, rfl, hb5, ta, tn, rfl, ht⟩
  clear KK
  have hy5 := ext_trans ex5 hb5
  replace hm := hm.ext hy5
  replace hx := hx.ext hy5
  replace hk := hk.ext hy5
  replace R0 := R0.ext hy5
  replace R1 := R1.ext hb5
  replace HB := ext_trans HB hy5
  clear ex5 hmx hxx hkx R0a R0b R0y1a R0y1b hy5 hb5
  have ex6 := ext_alloc w5 (.cells #[.int .i64 tc, .slice ta tl.length tn] 24)
  have hmx := hm.ext ex6
  have hxx := hx.ext ex6
  have hkx := hk.ext ex6
  have htx := ht.ext ex6
  obtain ⟨R0a, R0b⟩ := R0.two
  obtain ⟨R0y1a, R0y1b⟩ := (R0.ext (ext_alloc w5 (.cells #[.int .i64 tc, .slice ta tl.length tn] 24))).two
  obtain ⟨R1a, R1b⟩ := R1.two
  obtain ⟨R1y1a, R1y1b⟩ := (R1.ext (ext_alloc w5 (.cells #[.int .i64 tc, .slice ta tl.length tn] 24))).two
  have R2 := row_new w5 [.int .i64 tc, .slice ta tl.length tn] 24
  have KK := Lib.hid (applyP_gen hmx hxx HY.out)
  go_wp2_with fail
  refine KK.out.mono ?_
  rintro _ w6 ⟨_, rfl, hb6, ya, yn, rfl, hy⟩
  clear KK
  have hy6 := ext_trans ex6 hb6
  replace hm := hm.ext hy6
  replace hx := hx.ext hy6
  replace hk := hk.ext hy6
  replace ht := ht.ext hy6
  replace R0 := R0.ext hy6
  replace R1 := R1.ext hy6
  replace R2 := R2.ext hb6
  replace HB := ext_trans HB hy6
  clear ex6 hmx hxx hkx htx R0a R0b R0y1a R0y1b R1a R1b R1y1a R1y1b hy6 hb6
  obtain ⟨R0a, R0b⟩ := R0.two
  obtain ⟨R1a, R1b⟩ := R1.two
  obtain ⟨R2a, R2b⟩ := R2.two
  have KK := Lib.hid (solve_gen ht hx HS.out.symm)
  go_wp2_with fail
  refine KK.out.mono ?_
  rintro _ w7 ⟨_, rfl, hb7, sa, sc, ra, rc, rfl, hs, hr⟩
  clear KK
  have hy7 := hb7
  replace hm := hm.ext hy7
  replace hx := hx.ext hy7
  replace hk := hk.ext hy7
  replace ht := ht.ext hy7
  replace hy := hy.ext hy7
  replace R0 := R0.ext hy7
  replace R1 := R1.ext hy7
  replace R2 := R2.ext hy7
  replace HB := ext_trans HB hy7
  clear R0a R0b R1a R1b R2a R2b hy7 hb7
  cases q with
  | false =>
    have e1 : ¬ yv = [] := of_decide_eq_false HQY.out.symm
    have e2 : ¬ yv.length = 0 := fun h => e1 (List.length_eq_zero_iff.1 h)
    clear e1
    go_wp2
    go_ret
    exact .mk HB rfl
  | true =>
    have e1 : yv = [] := of_decide_eq_true HQY.out.symm
    have HAS : Hid (applyS ⟨tc, tl⟩ s = (x, 0)) := Lib.hid (by
      obtain ⟨h1, h2⟩ := HQS.out rfl
      rw [applyS_ok HCT.out (OKT.out.vecC.2 (by dsimp only; rw [HTC.out, Int.toNat_natCast]; exact h1))]
      exact congrArg (·, 0) h2)
    subst e1
    obtain ⟨R0a, R0b⟩ := R0.two
    obtain ⟨R1a, R1b⟩ := R1.two
    obtain ⟨R2a, R2b⟩ := R2.two
    have KK := Lib.hid (applyP_gen ht hs HAS.out)
    go_wp2_with fail
    refine KK.out.mono ?_
    rintro _ w8 ⟨_, rfl, hb8, za, zc, rfl, hz⟩
    clear KK
    have hy8 := hb8
    replace hm := hm.ext hy8
    replace hx := hx.ext hy8
    replace hk := hk.ext hy8
    replace ht := ht.ext hy8
    replace hy := hy.ext hy8
    replace hs := hs.ext hy8
    replace hr := hr.ext hy8
    replace R0 := R0.ext hy8
    replace R1 := R1.ext hy8
    replace R2 := R2.ext hy8
    replace HB := ext_trans HB hy8
    clear R0a R0b R1a R1b R2a R2b hy8 hb8
    obtain ⟨R0a, R0b⟩ := R0.two
    obtain ⟨R1a, R1b⟩ := R1.two
    obtain ⟨R2a, R2b⟩ := R2.two
    have KK := Lib.hid (equal_lit hz hx rfl)
    go_wp2_with fail
    refine KK.out.mono ?_
    rintro _ w9 ⟨_, rfl, hb9, rfl⟩
    clear KK
    have hy9 := hb9
    replace hm := hm.ext hy9
    replace hx := hx.ext hy9
    replace hk := hk.ext hy9
    replace ht := ht.ext hy9
    replace hy := hy.ext hy9
    replace hs := hs.ext hy9
    replace hr := hr.ext hy9
    replace hz := hz.ext hy9
    replace R0 := R0.ext hy9
    replace R1 := R1.ext hy9
    replace R2 := R2.ext hy9
    replace HB := ext_trans HB hy9
    clear R0a R0b R1a R1b R2a R2b hy9 hb9
    go_wp2
    go_ret
    exact .mk HB rfl
end Go.Proofs.Ytijmjliijjkcbaa