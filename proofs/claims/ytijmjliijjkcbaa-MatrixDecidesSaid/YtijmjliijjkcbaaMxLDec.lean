/- The walk of MatrixDecides. Printed by dec5law.py. -/
import Derived.Test.YtijmjliijjkcbaaMxLaw2
import Derived.Test.YtijmjliijjkcbaaReg
namespace Go.Proofs.Ytijmjliijjkcbaa
set_option linter.unusedVariables false
open Go.RowKit
attribute [local go_sem ↓] Go.wp_at_zero Go.wp_at_succ

set_option maxRecDepth 100000 in
set_option maxHeartbeats 8000000 in
theorem walkMatrixDecides {Sm Sb Sx : Nat → Prop} {w : World} {vm vb vx : Value} {m : Mx} {b x : List Int} (hm : MatV Sm w vm m) (hb : Ints Sb w vb b) (hx : Ints Sx w vx x) :
    Calls Try.prog 10 #[vm, vb, vx] w (Post w fun _ r => r = .bool true) := by
  obtain ⟨cols, ll⟩ := m
  obtain ⟨rm, rfl, lam⟩ := hm
  obtain ⟨am, nm, rfl, _⟩ := lam.form
  dsimp only at lam ⊢
  have hm : MatV Sm w (.agg #[.int .i64 cols, .slice am ll.length nm]) ⟨cols, ll⟩ := ⟨_, rfl, lam⟩
  clear lam
  obtain ⟨ab, nb, rfl, _⟩ := hb.form
  obtain ⟨ax, nx, rfl, _⟩ := hx.form
  have HB := Below.refl w.heap.size w
  obtain ⟨ck, hck⟩ : ∃ ck, ck = checkM ⟨cols, ll⟩ := ⟨_, rfl⟩
  have HC := Lib.hid hck
  obtain ⟨cb, hcb⟩ : ∃ cb, cb = vecE (ll.length : Int) b := ⟨_, rfl⟩
  have HCB := Lib.hid hcb
  obtain ⟨cx, hcx⟩ : ∃ cx, cx = vecE cols x := ⟨_, rfl⟩
  have HCX := Lib.hid hcx
  clear hck hcb hcx
  go_enter Try.func10, Try.ntmps10
  have ex1 := ext_alloc' (ext_alloc w (.cells #[.int .i64 cols, .slice am ll.length nm] 24)) (.cells #[.int .i64 cols, .slice am ll.length nm] 24)
  have hmx := hm.ext ex1
  have hbx := hb.ext ex1
  have hxx := hx.ext ex1
  have R0 := row_new w [.int .i64 cols, .slice am ll.length nm] 24
  replace R0 := R0.ext (ext_alloc (w.alloc (.cells #[.int .i64 cols, .slice am ll.length nm] 24)) (.cells #[.int .i64 cols, .slice am ll.length nm] 24))
  have KK := Lib.hid (few1 (hm.ext (ext_alloc w (.cells #[.int .i64 cols, .slice am ll.length nm] 24))) (B := w.heap.size + 1) (e := 24) (by simp))
  go_wp2_with fail
  refine KK.out.mono ?_
  rintro _ w1 ⟨_, rfl, hb1, rfl⟩
  clear KK
  have hy1 := ext_trans ex1 hb1
  replace hm := hm.ext hy1
  replace hb := hb.ext hy1
  replace hx := hx.ext hy1
  replace R0 := R0.ext hb1
  replace HB := ext_trans HB hy1
  clear ex1 hmx hbx hxx hy1 hb1
  cases hf : fewM ⟨cols, ll⟩ with
  | false =>
    clear hf
    go_wp2_with fail
    refine (awake_calls _).mono ?_
    rintro _ w2 ⟨_, rfl, hb2, rfl⟩
    go_wp2
    go_ret
    exact .mk (ext_trans HB hb2) rfl
  | true =>
  have HF := Lib.hid hf
  clear hf
  obtain ⟨R0a, R0b⟩ := R0.two
  have KK := Lib.hid (refCheck_gen hm HC.out.symm)
  go_wp2_with fail
  refine KK.out.mono ?_
  rintro _ w2 ⟨_, rfl, hb2, rfl⟩
  clear KK
  have hy2 := hb2
  replace hm := hm.ext hy2
  replace hb := hb.ext hy2
  replace hx := hx.ext hy2
  replace R0 := R0.ext hy2
  replace HB := ext_trans HB hy2
  clear R0a R0b hy2 hb2
  by_cases hc : ¬ ck = 0
  · have e1 : (ck != 0) = true := by simp [hc]
    clear hc
    go_wp2_with fail
    refine (awake_calls _).mono ?_
    rintro _ w3 ⟨_, rfl, hb3, rfl⟩
    go_wp2
    go_ret
    exact .mk (ext_trans HB hb3) rfl
  have hc := Classical.not_not.1 hc
  subst hc
  have OK := Lib.hid (checkM_zero.1 HC.out.symm)
  have HC0 := Lib.hid HC.out.symm
  have hc0 : 0 ≤ cols := OK.out.c0
  have hc1 : cols ≤ 14 := (fewM_cols HF.out OK.out).1
  have hl1 : ll.length ≤ 14 := (fewM_cols HF.out OK.out).2
  by_cases hlb : 40 < b.length
  · have d1 : decide (40 < b.length) = true := decide_eq_true hlb
    go_wp2_with fail
    refine (awake_calls _).mono ?_
    rintro _ w3 ⟨_, rfl, hb3, rfl⟩
    go_wp2
    go_ret
    exact .mk (ext_trans HB hb3) rfl
  have d1 : decide (40 < b.length) = false := decide_eq_false hlb
  by_cases hlx : 40 < x.length
  · have d2 : decide (40 < x.length) = true := decide_eq_true hlx
    go_wp2_with fail
    refine (awake_calls _).mono ?_
    rintro _ w3 ⟨_, rfl, hb3, rfl⟩
    go_wp2
    go_ret
    exact .mk (ext_trans HB hb3) rfl
  have d2 : decide (40 < x.length) = false := decide_eq_false hlx
  obtain ⟨R0a, R0b⟩ := R0.two
  have KK := Lib.hid (refVector_gen hb HCB.out.symm)
  go_wp2_with fail
  refine KK.out.mono ?_
  rintro _ w3 ⟨_, rfl, hb3, rfl⟩
  clear KK
  have hy3 := hb3
  replace hm := hm.ext hy3
  replace hb := hb.ext hy3
  replace hx := hx.ext hy3
  replace R0 := R0.ext hy3
  replace HB := ext_trans HB hy3
  clear R0a R0b hy3 hb3
  by_cases hc : ¬ cb = 0
  · have e1 : (cb != 0) = true := by simp [hc]
    clear hc
    go_wp2_with fail
    refine (awake_calls _).mono ?_
    rintro _ w4 ⟨_, rfl, hb4, rfl⟩
    go_wp2
    go_ret
    exact .mk (ext_trans HB hb4) rfl
  have hc := Classical.not_not.1 hc
  subst hc
  obtain ⟨R0a, R0b⟩ := R0.two
  have KK := Lib.hid (refVector_gen hx HCX.out.symm)
  go_wp2_with fail
  refine KK.out.mono ?_
  rintro _ w4 ⟨_, rfl, hb4, rfl⟩
  clear KK
  have hy4 := hb4
  replace hm := hm.ext hy4
  replace hb := hb.ext hy4
  replace hx := hx.ext hy4
  replace R0 := R0.ext hy4
  replace HB := ext_trans HB hy4
  clear R0a R0b hy4 hb4
  by_cases hc : ¬ cx = 0
  · have e1 : (cx != 0) = true := by simp [hc]
    clear hc
    go_wp2_with fail
    refine (awake_calls _).mono ?_
    rintro _ w5 ⟨_, rfl, hb5, rfl⟩
    go_wp2
    go_ret
    exact .mk (ext_trans HB hb5) rfl
  have hc := Classical.not_not.1 hc
  subst hc
  have IB := Lib.hid (vecE_inR.1 HCB.out.symm)
  have IX := Lib.hid (OK.out.vecC.1 HCX.out.symm)
  have HLX : x.length ≤ 14 := by have := IX.out.length; dsimp only at this; omega
  have HT := Lib.hid (⟨_, rfl⟩ : ∃ t, t = solS ⟨cols, ll⟩ b)
  obtain ⟨⟨⟨s, y⟩, ⟨q, e⟩⟩, hT⟩ := HT.out
  have HS := Lib.hid hT
  clear HT hT
  have hez : e = 0 := by
    cases hd : solD ⟨cols, ll⟩ b with
    | none => have := HS.out; rw [solS_ok HC0.out HCB.out.symm hd] at this; injection this with _ h; injection h
    | some d => have := HS.out; rw [solS_dep HC0.out HCB.out.symm hd] at this; injection this with _ h; injection h
  subst hez
  obtain ⟨im, him⟩ : ∃ im, im = imageV ll x := ⟨_, rfl⟩
  have HIM : Hid (applyS ⟨cols, ll⟩ x = (im, 0)) := Lib.hid (by rw [applyS_ok HC0.out HCX.out.symm, him])
  have HIR : Hid (InR ll.length im) := Lib.hid (him ▸ image_inR ll x)
  obtain ⟨u, hu⟩ : ∃ u, u = solX ⟨cols, ll⟩ im := ⟨_, rfl⟩
  have HU : Hid (solS ⟨cols, ll⟩ im = ((u, []), (true, 0))) := Lib.hid (by rw [solS_ok HC0.out (vecE_inR.2 HIR.out) (by rw [him]; exact solD_image OK.out x), hu])
  have HUR : Hid (InR cols.toNat u) := Lib.hid (hu ▸ solX_inR OK.out im)
  have HUI : Hid (imageV ll u = im) := Lib.hid (by rw [hu]; exact sol_image OK.out HIR.out (solD_none (by rw [him]; exact solD_image OK.out x)))
  have HAU : Hid (applyS ⟨cols, ll⟩ u = (im, 0)) := Lib.hid (by rw [applyS_ok HC0.out (OK.out.vecC.2 HUR.out)]; exact congrArg (·, 0) HUI.out)
  have HUX : Hid (applyS ⟨cols, ll⟩ (xorL u x) = ([], 0)) := Lib.hid (by
    rw [applyS_ok HC0.out (OK.out.vecC.2 (HUR.out.xor IX.out))]
    show (imageV ll (xorL u x), (0 : Int)) = ([], 0)
    rw [image_xor HUR.out.1 IX.out.1, HUI.out, ← him, xorL_self HIR.out.1])
  have HLU : u.length ≤ 14 := by have := HUR.out.length; omega
  have HVI : Hid (verS ⟨cols, ll⟩ im y ≠ 0) := Lib.hid (by rw [him]; exact ver_image OK.out x y)
  obtain ⟨vi, hvi⟩ : ∃ vi, vi = verS ⟨cols, ll⟩ im y := ⟨_, rfl⟩
  have HVV := Lib.hid hvi
  have ev : (vi == 0) = false := by rw [hvi]; simpa using HVI.out
  clear him hu hvi
  obtain ⟨R0a, R0b⟩ := R0.two
  have KK := Lib.hid (solve_gen hm hb HS.out.symm)
  go_wp2_with fail
  refine KK.out.mono ?_
  rintro _ w5 ⟨_, rfl, hb5, sa, sc, ya, yc, rfl, hs, hy⟩
  clear KK
  have hy5 := hb5
  replace hm := hm.ext hy5
  replace hb := hb.ext hy5
  replace hx := hx.ext hy5
  replace R0 := R0.ext hy5
  replace HB := ext_trans HB hy5
  clear R0a R0b hy5 hb5
  have RC := sol_cases HS.out.symm
  cases q with
  | true =>
    rcases RC with ⟨c1, c2⟩ | ⟨c1, c2, c3⟩ | ⟨c1, c2, c3⟩
    · exact absurd rfl c1
    · subst c3
      clear c1 c2
      have HSX : Hid (applyS ⟨cols, ll⟩ s = (b, 0)) := Lib.hid (by
        cases hd : solD ⟨cols, ll⟩ b with
        | some d => have := HS.out; rw [solS_dep HC0.out HCB.out.symm hd] at this; injection this with _ h; injection h with h _; cases h
        | none =>
          have := HS.out
          rw [solS_ok HC0.out HCB.out.symm hd] at this
          injection this with h _
          injection h with h _
          rw [h, applyS_ok HC0.out (OK.out.vecC.2 (solX_inR OK.out b))]
          exact congrArg (·, 0) (sol_image OK.out IB.out (solD_none hd)))
      obtain ⟨R0a, R0b⟩ := R0.two
      have KK := Lib.hid (applyP_gen hm hs HSX.out)
      go_wp2_with fail
      refine KK.out.mono ?_
      rintro _ w6 ⟨_, rfl, hb6, ta, tc, rfl, ht⟩
      clear KK
      have hy6 := hb6
      replace hm := hm.ext hy6
      replace hb := hb.ext hy6
      replace hx := hx.ext hy6
      replace hs := hs.ext hy6
      replace hy := hy.ext hy6
      replace R0 := R0.ext hy6
      replace HB := ext_trans HB hy6
      clear R0a R0b hy6 hb6
      obtain ⟨R0a, R0b⟩ := R0.two
      have KK := Lib.hid (equal_lit ht hb rfl)
      go_wp2_with fail
      refine KK.out.mono ?_
      rintro _ w7 ⟨_, rfl, hb7, rfl⟩
      clear KK
      have hy7 := hb7
      replace hm := hm.ext hy7
      replace hb := hb.ext hy7
      replace hx := hx.ext hy7
      replace hs := hs.ext hy7
      replace hy := hy.ext hy7
      replace ht := ht.ext hy7
      replace R0 := R0.ext hy7
      replace HB := ext_trans HB hy7
      clear R0a R0b hy7 hb7
      obtain ⟨R0a, R0b⟩ := R0.two
      have KK := Lib.hid (applyP_gen hm hx HIM.out)
      go_wp2_with fail
      refine KK.out.mono ?_
      rintro _ w8 ⟨_, rfl, hb8, ia, ic, rfl, hi⟩
      clear KK
      have hy8 := hb8
      replace hm := hm.ext hy8
      replace hb := hb.ext hy8
      replace hx := hx.ext hy8
      replace hs := hs.ext hy8
      replace hy := hy.ext hy8
      replace R0 := R0.ext hy8
      replace HB := ext_trans HB hy8
      clear R0a R0b hy8 hb8
      obtain ⟨R0a, R0b⟩ := R0.two
      have KK := Lib.hid (solve_gen hm hi HU.out)
      go_wp2_with fail
      refine KK.out.mono ?_
      rintro _ w9 ⟨_, rfl, hb9, ua, uc, va, vc, rfl, hu, hv⟩
      clear KK
      have hy9 := hb9
      replace hm := hm.ext hy9
      replace hb := hb.ext hy9
      replace hx := hx.ext hy9
      replace hs := hs.ext hy9
      replace hy := hy.ext hy9
      replace hi := hi.ext hy9
      replace R0 := R0.ext hy9
      replace HB := ext_trans HB hy9
      clear R0a R0b hy9 hb9
      obtain ⟨R0a, R0b⟩ := R0.two
      have KK := Lib.hid (applyP_gen hm hu HAU.out)
      go_wp2_with fail
      refine KK.out.mono ?_
      rintro _ w10 ⟨_, rfl, hb10, wa, wc, rfl, hw⟩
      clear KK
      have hy10 := hb10
      replace hm := hm.ext hy10
      replace hb := hb.ext hy10
      replace hx := hx.ext hy10
      replace hs := hs.ext hy10
      replace hy := hy.ext hy10
      replace hi := hi.ext hy10
      replace hu := hu.ext hy10
      replace hv := hv.ext hy10
      replace R0 := R0.ext hy10
      replace HB := ext_trans HB hy10
      clear R0a R0b hy10 hb10
      obtain ⟨R0a, R0b⟩ := R0.two
      have KK := Lib.hid (equal_lit hw hi rfl)
      go_wp2_with fail
      refine KK.out.mono ?_
      rintro _ w11 ⟨_, rfl, hb11, rfl⟩
      clear KK
      have hy11 := hb11
      replace hm := hm.ext hy11
      replace hb := hb.ext hy11
      replace hx := hx.ext hy11
      replace hs := hs.ext hy11
      replace hy := hy.ext hy11
      replace hi := hi.ext hy11
      replace hu := hu.ext hy11
      replace hv := hv.ext hy11
      replace hw := hw.ext hy11
      replace R0 := R0.ext hy11
      replace HB := ext_trans HB hy11
      clear R0a R0b hy11 hb11
      obtain ⟨R0a, R0b⟩ := R0.two
      have KK := Lib.hid (verify_gen hm hi hy HVV.out.symm)
      go_wp2_with fail
      refine KK.out.mono ?_
      rintro _ w12 ⟨_, rfl, hb12, rfl⟩
      clear KK
      have hy12 := hb12
      replace hm := hm.ext hy12
      replace hb := hb.ext hy12
      replace hx := hx.ext hy12
      replace hs := hs.ext hy12
      replace hy := hy.ext hy12
      replace hi := hi.ext hy12
      replace hu := hu.ext hy12
      replace hv := hv.ext hy12
      replace hw := hw.ext hy12
      replace R0 := R0.ext hy12
      replace HB := ext_trans HB hy12
      clear R0a R0b hy12 hb12
      have KEEP : Hid (∀ W', Below w12.heap.size w12 W' → (fun w' : World => w'.cell? ⟨w.heap.size, 0, none⟩ = some (.int .i64 cols) ∧ w'.cell? ⟨w.heap.size, 1, none⟩ = some (.slice am ll.length nm)) W') := Lib.hid (fun W' hW' => ⟨(R0.ext hW').two.1, (R0.ext hW').two.2⟩)
      have R0lt := R0.lt
      clear R0
      go_wp2_with fail
      refine region_E (fun w' : World => w'.cell? ⟨w.heap.size, 0, none⟩ = some (.int .i64 cols) ∧ w'.cell? ⟨w.heap.size, 1, none⟩ = some (.slice am ll.length nm)) (fun i => false) (by kernel_rfl) ?_ (fun hHeld => ?_)
      · exact KEEP.out _ (drewN_below _ _ 1)
      refine anyE_take 0 (v := ?_) rfl (by kernel_rfl) (fun _ _ _ h => h) (by rfl) ?hy0r hHeld ?rest0r
      case hy0r => (intro w hSw; (try dsimp only at hSw); go_simp; try with_reducible rfl)
      try simp only [Act.put, List.setIfInBounds_toArray, List.set_cons_zero, List.set_cons_succ]
      refine anyE_take 1 (v := ?_) rfl (by kernel_rfl) (fun _ _ _ h => h) (by rfl) ?hy1r hHeld ?rest1r
      case hy1r => (intro w hSw; (try dsimp only at hSw); go_simp; try with_reducible rfl)
      try simp only [Act.put, List.setIfInBounds_toArray, List.set_cons_zero, List.set_cons_succ]
      refine anyE_take 2 (v := ?_) rfl (by kernel_rfl) (fun _ _ _ h => h) (by rfl) ?hy2r hHeld ?rest2r
      case hy2r => (intro w hSw; (try dsimp only at hSw); go_simp; try with_reducible rfl)
      try simp only [Act.put, List.setIfInBounds_toArray, List.set_cons_zero, List.set_cons_succ]
      refine anyE_one 3 rfl (by kernel_rfl) (fun K hK => ?_)
      go_simp; go_at_call 32; refine (plus_calls (hu.ext (drewN_below _ _ 1)) (hx.ext (drewN_below _ _ 1)) (by omega)).mono ?_; rintro _ w13 ⟨_, rfl, hb13, hp⟩; have hk13 : Below w12.heap.size w12 w13 := ext_trans (drewN_below _ _ 1) hb13
      refine hK.out _ _ (fun _ => KEEP.out _ hk13) (fun hHeld => ?_); replace hHeld := hHeld rfl
      clear hK K
      try simp only [Act.put, List.setIfInBounds_toArray, List.set_cons_zero, List.set_cons_succ]
      refine anyE_one 4 rfl (by kernel_rfl) (fun K hK => ?_)
      go_simp; go_at_call 31; refine (applyP_gen (hm.ext hk13) hp HUX.out).mono ?_; rintro _ w14 ⟨_, rfl, hb14, za, zc, rfl, hz⟩; have hk14 : Below w12.heap.size w12 w14 := ext_trans hk13 hb14; have hq11_12 := hb14
      refine hK.out _ _ (fun _ => KEEP.out _ hk14) (fun hHeld => ?_); replace hHeld := hHeld rfl
      clear hK K
      try simp only [Act.put, List.setIfInBounds_toArray, List.set_cons_zero, List.set_cons_succ]
      refine anyE_take 5 (v := ?_) rfl (by kernel_rfl) (fun _ _ _ h => h) (by rfl) ?hy5r hHeld ?rest5r
      case hy5r => (intro w hSw; (try dsimp only at hSw); go_simp; try with_reducible rfl)
      try simp only [Act.put, List.setIfInBounds_toArray, List.set_cons_zero, List.set_cons_succ]
      refine anyE_take 6 (v := ?_) rfl (by kernel_rfl) (fun _ _ _ h => h) (by rfl) ?hy6r hHeld ?rest6r
      case hy6r => (intro w hSw; (try dsimp only at hSw); go_simp; try with_reducible rfl)
      try simp only [Act.put, List.setIfInBounds_toArray, List.set_cons_zero, List.set_cons_succ]
      refine anyE_take 7 (v := ?_) rfl (by kernel_rfl) (fun _ _ _ h => h) (by rfl) ?hy7r hHeld ?rest7r
      case hy7r => (intro w hSw; (try dsimp only at hSw); go_simp; try with_reducible rfl)
      try simp only [Act.put, List.setIfInBounds_toArray, List.set_cons_zero, List.set_cons_succ]
      refine anyE_take 8 (v := ?_) rfl (by kernel_rfl) (fun _ _ _ h => h) (by rfl) ?hy8r hHeld ?rest8r
      case hy8r => (intro w hSw; (try dsimp only at hSw); go_simp; try with_reducible rfl)
      try simp only [Act.put, List.setIfInBounds_toArray, List.set_cons_zero, List.set_cons_succ]
      refine anyE_take 9 (v := ?_) rfl (by kernel_rfl) (fun _ _ _ h => h) (by rfl) ?hy9r hHeld ?rest9r
      case hy9r => (intro w hSw; (try dsimp only at hSw); go_simp; try with_reducible rfl)
      try simp only [Act.put, List.setIfInBounds_toArray, List.set_cons_zero, List.set_cons_succ]
      refine anyE_done (by kernel_rfl) ?_ _
      replace HB := ext_trans HB hk14
      have KK := Lib.hid (awake_calls w14)
      go_wp2_with fail
      refine KK.out.mono ?_
      rintro _ w15 ⟨_, rfl, hb15, rfl⟩
      clear KK
      have hy15 := hb15
      replace HB := ext_trans HB hy15
      clear hy15 hb15
      go_wp2
      go_ret
      exact .mk HB rfl
    · cases c2
  | false =>
    rcases RC with ⟨c1, c2⟩ | ⟨c1, c2, c3⟩ | ⟨c1, c2, c3⟩
    · exact absurd rfl c1
    · cases c2
    · clear c1 c2
      obtain ⟨R0a, R0b⟩ := R0.two
      have KK := Lib.hid (verify_gen hm hb hy c3)
      go_wp2_with fail
      refine KK.out.mono ?_
      rintro _ w6 ⟨_, rfl, hb6, rfl⟩
      clear KK
      have hy6 := hb6
      replace hm := hm.ext hy6
      replace hb := hb.ext hy6
      replace hx := hx.ext hy6
      replace hs := hs.ext hy6
      replace hy := hy.ext hy6
      replace R0 := R0.ext hy6
      replace HB := ext_trans HB hy6
      clear R0a R0b hy6 hb6
      clear c3
      obtain ⟨R0a, R0b⟩ := R0.two
      have KK := Lib.hid (applyP_gen hm hx HIM.out)
      go_wp2_with fail
      refine KK.out.mono ?_
      rintro _ w7 ⟨_, rfl, hb7, ia, ic, rfl, hi⟩
      clear KK
      have hy7 := hb7
      replace hm := hm.ext hy7
      replace hb := hb.ext hy7
      replace hx := hx.ext hy7
      replace hs := hs.ext hy7
      replace hy := hy.ext hy7
      replace R0 := R0.ext hy7
      replace HB := ext_trans HB hy7
      clear R0a R0b hy7 hb7
      obtain ⟨R0a, R0b⟩ := R0.two
      have KK := Lib.hid (solve_gen hm hi HU.out)
      go_wp2_with fail
      refine KK.out.mono ?_
      rintro _ w8 ⟨_, rfl, hb8, ua, uc, va, vc, rfl, hu, hv⟩
      clear KK
      have hy8 := hb8
      replace hm := hm.ext hy8
      replace hb := hb.ext hy8
      replace hx := hx.ext hy8
      replace hs := hs.ext hy8
      replace hy := hy.ext hy8
      replace hi := hi.ext hy8
      replace R0 := R0.ext hy8
      replace HB := ext_trans HB hy8
      clear R0a R0b hy8 hb8
      obtain ⟨R0a, R0b⟩ := R0.two
      have KK := Lib.hid (applyP_gen hm hu HAU.out)
      go_wp2_with fail
      refine KK.out.mono ?_
      rintro _ w9 ⟨_, rfl, hb9, wa, wc, rfl, hw⟩
      clear KK
      have hy9 := hb9
      replace hm := hm.ext hy9
      replace hb := hb.ext hy9
      replace hx := hx.ext hy9
      replace hs := hs.ext hy9
      replace hy := hy.ext hy9
      replace hi := hi.ext hy9
      replace hu := hu.ext hy9
      replace hv := hv.ext hy9
      replace R0 := R0.ext hy9
      replace HB := ext_trans HB hy9
      clear R0a R0b hy9 hb9
      obtain ⟨R0a, R0b⟩ := R0.two
      have KK := Lib.hid (equal_lit hw hi rfl)
      go_wp2_with fail
      refine KK.out.mono ?_
      rintro _ w10 ⟨_, rfl, hb10, rfl⟩
      clear KK
      have hy10 := hb10
      replace hm := hm.ext hy10
      replace hb := hb.ext hy10
      replace hx := hx.ext hy10
      replace hs := hs.ext hy10
      replace hy := hy.ext hy10
      replace hi := hi.ext hy10
      replace hu := hu.ext hy10
      replace hv := hv.ext hy10
      replace hw := hw.ext hy10
      replace R0 := R0.ext hy10
      replace HB := ext_trans HB hy10
      clear R0a R0b hy10 hb10
      obtain ⟨R0a, R0b⟩ := R0.two
      have KK := Lib.hid (verify_gen hm hi hy HVV.out.symm)
      go_wp2_with fail
      refine KK.out.mono ?_
      rintro _ w11 ⟨_, rfl, hb11, rfl⟩
      clear KK
      have hy11 := hb11
      replace hm := hm.ext hy11
      replace hb := hb.ext hy11
      replace hx := hx.ext hy11
      replace hs := hs.ext hy11
      replace hy := hy.ext hy11
      replace hi := hi.ext hy11
      replace hu := hu.ext hy11
      replace hv := hv.ext hy11
      replace hw := hw.ext hy11
      replace R0 := R0.ext hy11
      replace HB := ext_trans HB hy11
      clear R0a R0b hy11 hb11
      have KEEP : Hid (∀ W', Below w11.heap.size w11 W' → (fun w' : World => w'.cell? ⟨w.heap.size, 0, none⟩ = some (.int .i64 cols) ∧ w'.cell? ⟨w.heap.size, 1, none⟩ = some (.slice am ll.length nm)) W') := Lib.hid (fun W' hW' => ⟨(R0.ext hW').two.1, (R0.ext hW').two.2⟩)
      have R0lt := R0.lt
      clear R0
      go_wp2_with fail
      refine region_E (fun w' : World => w'.cell? ⟨w.heap.size, 0, none⟩ = some (.int .i64 cols) ∧ w'.cell? ⟨w.heap.size, 1, none⟩ = some (.slice am ll.length nm)) (fun i => false) (by kernel_rfl) ?_ (fun hHeld => ?_)
      · exact KEEP.out _ (drewN_below _ _ 1)
      refine anyE_take 0 (v := ?_) rfl (by kernel_rfl) (fun _ _ _ h => h) (by rfl) ?hy0s hHeld ?rest0s
      case hy0s => (intro w hSw; (try dsimp only at hSw); go_simp; try with_reducible rfl)
      try simp only [Act.put, List.setIfInBounds_toArray, List.set_cons_zero, List.set_cons_succ]
      refine anyE_take 1 (v := ?_) rfl (by kernel_rfl) (fun _ _ _ h => h) (by rfl) ?hy1s hHeld ?rest1s
      case hy1s => (intro w hSw; (try dsimp only at hSw); go_simp; try with_reducible rfl)
      try simp only [Act.put, List.setIfInBounds_toArray, List.set_cons_zero, List.set_cons_succ]
      refine anyE_take 2 (v := ?_) rfl (by kernel_rfl) (fun _ _ _ h => h) (by rfl) ?hy2s hHeld ?rest2s
      case hy2s => (intro w hSw; (try dsimp only at hSw); go_simp; try with_reducible rfl)
      try simp only [Act.put, List.setIfInBounds_toArray, List.set_cons_zero, List.set_cons_succ]
      refine anyE_one 3 rfl (by kernel_rfl) (fun K hK => ?_)
      go_simp; go_at_call 32; refine (plus_calls (hu.ext (drewN_below _ _ 1)) (hx.ext (drewN_below _ _ 1)) (by omega)).mono ?_; rintro _ w12 ⟨_, rfl, hb12, hp⟩; have hk12 : Below w11.heap.size w11 w12 := ext_trans (drewN_below _ _ 1) hb12
      refine hK.out _ _ (fun _ => KEEP.out _ hk12) (fun hHeld => ?_); replace hHeld := hHeld rfl
      clear hK K
      try simp only [Act.put, List.setIfInBounds_toArray, List.set_cons_zero, List.set_cons_succ]
      refine anyE_one 4 rfl (by kernel_rfl) (fun K hK => ?_)
      go_simp; go_at_call 31; refine (applyP_gen (hm.ext hk12) hp HUX.out).mono ?_; rintro _ w13 ⟨_, rfl, hb13, za, zc, rfl, hz⟩; have hk13 : Below w11.heap.size w11 w13 := ext_trans hk12 hb13; have hq11_12 := hb13
      refine hK.out _ _ (fun _ => KEEP.out _ hk13) (fun hHeld => ?_); replace hHeld := hHeld rfl
      clear hK K
      try simp only [Act.put, List.setIfInBounds_toArray, List.set_cons_zero, List.set_cons_succ]
      refine anyE_take 5 (v := ?_) rfl (by kernel_rfl) (fun _ _ _ h => h) (by rfl) ?hy5s hHeld ?rest5s
      case hy5s => (intro w hSw; (try dsimp only at hSw); go_simp; try with_reducible rfl)
      try simp only [Act.put, List.setIfInBounds_toArray, List.set_cons_zero, List.set_cons_succ]
      refine anyE_take 6 (v := ?_) rfl (by kernel_rfl) (fun _ _ _ h => h) (by rfl) ?hy6s hHeld ?rest6s
      case hy6s => (intro w hSw; (try dsimp only at hSw); go_simp; try with_reducible rfl)
      try simp only [Act.put, List.setIfInBounds_toArray, List.set_cons_zero, List.set_cons_succ]
      refine anyE_take 7 (v := ?_) rfl (by kernel_rfl) (fun _ _ _ h => h) (by rfl) ?hy7s hHeld ?rest7s
      case hy7s => (intro w hSw; (try dsimp only at hSw); go_simp; try with_reducible rfl)
      try simp only [Act.put, List.setIfInBounds_toArray, List.set_cons_zero, List.set_cons_succ]
      refine anyE_take 8 (v := ?_) rfl (by kernel_rfl) (fun _ _ _ h => h) (by rfl) ?hy8s hHeld ?rest8s
      case hy8s => (intro w hSw; (try dsimp only at hSw); go_simp; try with_reducible rfl)
      try simp only [Act.put, List.setIfInBounds_toArray, List.set_cons_zero, List.set_cons_succ]
      refine anyE_take 9 (v := ?_) rfl (by kernel_rfl) (fun _ _ _ h => h) (by rfl) ?hy9s hHeld ?rest9s
      case hy9s => (intro w hSw; (try dsimp only at hSw); go_simp; try with_reducible rfl)
      try simp only [Act.put, List.setIfInBounds_toArray, List.set_cons_zero, List.set_cons_succ]
      refine anyE_done (by kernel_rfl) ?_ _
      replace HB := ext_trans HB hk13
      have KK := Lib.hid (awake_calls w13)
      go_wp2_with fail
      refine KK.out.mono ?_
      rintro _ w14 ⟨_, rfl, hb14, rfl⟩
      clear KK
      have hy14 := hb14
      replace HB := ext_trans HB hy14
      clear hy14 hb14
      go_wp2
      go_ret
      exact .mk HB rfl
end Go.Proofs.Ytijmjliijjkcbaa
