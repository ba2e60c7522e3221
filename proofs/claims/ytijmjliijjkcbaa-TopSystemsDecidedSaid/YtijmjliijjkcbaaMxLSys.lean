/- The walk of TopSystemsDecided. Printed by sys5law.py. -/
import Derived.Test.YtijmjliijjkcbaaMxPlay
import Derived.Test.YtijmjliijjkcbaaReg
namespace Go.Proofs.Ytijmjliijjkcbaa
set_option linter.unusedVariables false
open Go.RowKit
attribute [local go_sem ↓] Go.wp_at_zero Go.wp_at_succ

set_option maxRecDepth 100000 in
set_option maxHeartbeats 8000000 in
theorem walkTopSystemsDecided {Sm Sb Sx : Nat → Prop} {w : World} {vm vb vx : Value} {m : Mx} {b x : List Int} (hm : MatV Sm w vm m) (hb : Ints Sb w vb b) (hx : Ints Sx w vx x) :
    Calls Try.prog 6 #[vm, vb, vx] w (Post w fun _ r => r = .bool true) := by
  obtain ⟨cols, ll⟩ := m
  obtain ⟨rm, rfl, lam⟩ := hm
  obtain ⟨am, nm, rfl, _⟩ := lam.form
  dsimp only at lam ⊢
  have hm : MatV Sm w (.agg #[.int .i64 cols, .slice am ll.length nm]) ⟨cols, ll⟩ := ⟨_, rfl, lam⟩
  clear lam
  obtain ⟨ab, nb, rfl, _⟩ := hb.form
  obtain ⟨ax, nx, rfl, _⟩ := hx.form
  have HB := Below.refl w.heap.size w
  obtain ⟨pq, hpq⟩ : ∃ pq, (fewM ⟨cols, ll⟩ && decide (checkM ⟨cols, ll⟩ = 0)) = pq := ⟨_, rfl⟩
  have HPQ := Lib.hid hpq
  clear hpq
  obtain ⟨cb, hcb⟩ : ∃ cb, cb = vecE (ll.length : Int) b := ⟨_, rfl⟩
  have HCb := Lib.hid hcb
  clear hcb
  obtain ⟨cx, hcx⟩ : ∃ cx, cx = vecE cols x := ⟨_, rfl⟩
  have HCx := Lib.hid hcx
  clear hcx
  go_enter Try.func6, Try.ntmps6
  have ex1 := ext_alloc w (.cells #[.int .i64 cols, .slice am ll.length nm] 24)
  have hmx := hm.ext ex1
  have hbx := hb.ext ex1
  have hxx := hx.ext ex1
  have R0 := row_new w [.int .i64 cols, .slice am ll.length nm] 24
  have KK := Lib.hid (playAwake03_calls (w.alloc (.cells #[.int .i64 cols, .slice am ll.length nm] 24)))
  go_wp2_with fail
  refine KK.out.mono ?_
  rintro _ w1 ⟨_, rfl, hb1, rfl⟩
  clear KK
  have hy1 := ext_trans ex1 hb1
  replace hm := hm.ext hy1
  replace hb := hb.ext hy1
  replace hx := hx.ext hy1
  replace R0 := R0.ext hb1
  replace HB := ext_trans HB hy1
  clear ex1 hmx hbx hxx hy1 hb1
  have ex2 := ext_alloc w1 (.cells #[.int .i64 cols, .slice am ll.length nm] 24)
  have hmx := hm.ext ex2
  have hbx := hb.ext ex2
  have hxx := hx.ext ex2
  obtain ⟨R0a, R0b⟩ := R0.two
  obtain ⟨R0y1a, R0y1b⟩ := (R0.ext (ext_alloc w1 (.cells #[.int .i64 cols, .slice am ll.length nm] 24))).two
  have KK := Lib.hid (play1 (e := 24) (hm.ext (.refl _ _)) rfl HPQ.out)
  go_wp2_with fail
  refine KK.out.mono ?_
  rintro _ w2 ⟨_, rfl, hb2, rfl⟩
  clear KK
  have hy2 := ext_trans ex2 hb2
  replace hm := hm.ext hy2
  replace hb := hb.ext hy2
  replace hx := hx.ext hy2
  replace R0 := R0.ext hy2
  replace HB := ext_trans HB hy2
  clear ex2 hmx hbx hxx R0a R0b R0y1a R0y1b hy2 hb2
  cases pq with
  | false =>
    go_wp2
    go_ret
    exact .mk HB rfl
  | true =>
  obtain ⟨hf, hck⟩ := Bool.and_eq_true_iff.1 HPQ.out
  have HC0 := Lib.hid (of_decide_eq_true hck)
  have OK := Lib.hid (checkM_zero.1 HC0.out)
  have hc0 : 0 ≤ cols := OK.out.c0
  have hc1 : cols ≤ 14 := (fewM_cols hf OK.out).1
  have hl1 : ll.length ≤ 14 := (fewM_cols hf OK.out).2
  clear hf hck
  by_cases hlb : 20 < b.length
  · have db : decide (20 < b.length) = true := decide_eq_true hlb
    go_wp2
    go_ret
    exact .mk HB rfl
  have db : decide (20 < b.length) = false := decide_eq_false hlb
  by_cases hlx : 20 < x.length
  · have dx : decide (20 < x.length) = true := decide_eq_true hlx
    go_wp2
    go_ret
    exact .mk HB rfl
  have dx : decide (20 < x.length) = false := decide_eq_false hlx
  obtain ⟨R0a, R0b⟩ := R0.two
  have KK := Lib.hid (refVector_gen hb HCb.out.symm)
  go_wp2_with fail
  refine KK.out.mono ?_
  rintro _ w3 ⟨_, rfl, hb3, rfl⟩
  clear KK
  have hy3 := hb3
  replace hm := hm.ext hy3
  replace hb := hb.ext hy3
  replace hx := hx.ext hy3
  replace R0 := R0.ext hy3
  replace HB := ext_trans HB hy3
  clear R0a R0b hy3 hb3
  by_cases hc : ¬ cb = 0
  · have e1 : (cb != 0) = true := by simp [hc]
    clear hc
    go_wp2
    go_ret
    exact .mk HB rfl
  have hc := Classical.not_not.1 hc
  subst hc
  obtain ⟨R0a, R0b⟩ := R0.two
  have KK := Lib.hid (refVector_gen hx HCx.out.symm)
  go_wp2_with fail
  refine KK.out.mono ?_
  rintro _ w4 ⟨_, rfl, hb4, rfl⟩
  clear KK
  have hy4 := hb4
  replace hm := hm.ext hy4
  replace hb := hb.ext hy4
  replace hx := hx.ext hy4
  replace R0 := R0.ext hy4
  replace HB := ext_trans HB hy4
  clear R0a R0b hy4 hb4
  by_cases hc : ¬ cx = 0
  · have e1 : (cx != 0) = true := by simp [hc]
    clear hc
    go_wp2
    go_ret
    exact .mk HB rfl
  have hc := Classical.not_not.1 hc
  subst hc
  have IB := Lib.hid (vecE_inR.1 HCb.out.symm)
  have IX := Lib.hid (OK.out.vecC.1 HCx.out.symm)
  have HLX : x.length ≤ 14 := by have := IX.out.length; dsimp only at this; omega
  have HT := Lib.hid (⟨_, rfl⟩ : ∃ t, t = solS ⟨cols, ll⟩ b)
  obtain ⟨⟨⟨s, y⟩, ⟨q, e⟩⟩, hT⟩ := HT.out
  have HS := Lib.hid hT
  clear HT hT
  have hez : e = 0 := by
    cases hd : solD ⟨cols, ll⟩ b with
    | none => have := HS.out; rw [solS_ok HC0.out HCb.out.symm hd] at this; injection this with _ h; injection h
    | some d => have := HS.out; rw [solS_dep HC0.out HCb.out.symm hd] at this; injection this with _ h; injection h
  subst hez
  obtain ⟨im, him⟩ : ∃ im, im = imageV ll x := ⟨_, rfl⟩
  have HI := Lib.hid him
  have HIM : Hid (applyS ⟨cols, ll⟩ x = (im, 0)) := Lib.hid (by rw [applyS_ok HC0.out HCx.out.symm, him])
  clear him
  obtain ⟨R0a, R0b⟩ := R0.two
  have KK := Lib.hid (solve_gen hm hb HS.out.symm)
  go_wp2_with fail
  refine KK.out.mono ?_
  rintro _ w5 ⟨_, rfl, hb5, sa, sc, ya, yc, rfl, hs, hy⟩
  clear KK
  have hy5 := hb5
  replace hm := hm.ext hy5
  replace hb := hb.ext hy5
  replace hx := hx.ext hy5
  replace R0 := R0.ext hy5
  replace HB := ext_trans HB hy5
  clear R0a R0b hy5 hb5
  obtain ⟨R0a, R0b⟩ := R0.two
  have KK := Lib.hid (applyP_gen hm hx HIM.out)
  go_wp2_with fail
  refine KK.out.mono ?_
  rintro _ w6 ⟨_, rfl, hb6, ia, ic, rfl, hi⟩
  clear KK
  have hy6 := hb6
  replace hm := hm.ext hy6
  replace hb := hb.ext hy6
  replace hx := hx.ext hy6
  replace hs := hs.ext hy6
  replace hy := hy.ext hy6
  replace R0 := R0.ext hy6
  replace HB := ext_trans HB hy6
  clear R0a R0b hy6 hb6
  have RC := sol_cases HS.out.symm
  cases q with
  | false =>
    rcases RC with ⟨c1, c2⟩ | ⟨c1, c2, c3⟩ | ⟨c1, c2, c3⟩
    · exact absurd rfl c1
    · cases c2
    clear c1 c2
    have HNE : Hid (decide (im = b) = false) := Lib.hid (decide_eq_false fun h => by
      rw [HI.out] at h
      rw [← h] at c3
      exact ver_image OK.out x y c3)
    obtain ⟨R0a, R0b⟩ := R0.two
    have KK := Lib.hid (verify_gen hm hb hy c3)
    go_wp2_with fail
    refine KK.out.mono ?_
    rintro _ w7 ⟨_, rfl, hb7, rfl⟩
    clear KK
    have hy7 := hb7
    replace hm := hm.ext hy7
    replace hb := hb.ext hy7
    replace hx := hx.ext hy7
    replace hs := hs.ext hy7
    replace hy := hy.ext hy7
    replace hi := hi.ext hy7
    replace R0 := R0.ext hy7
    replace HB := ext_trans HB hy7
    clear R0a R0b hy7 hb7
    clear c3
    obtain ⟨R0a, R0b⟩ := R0.two
    have KK := Lib.hid (equal_gen hi hb HNE.out)
    go_wp2_with fail
    refine KK.out.mono ?_
    rintro _ w8 ⟨_, rfl, hb8, rfl⟩
    clear KK
    have hy8 := hb8
    replace hm := hm.ext hy8
    replace hb := hb.ext hy8
    replace hx := hx.ext hy8
    replace hs := hs.ext hy8
    replace hy := hy.ext hy8
    replace hi := hi.ext hy8
    replace R0 := R0.ext hy8
    replace HB := ext_trans HB hy8
    clear R0a R0b hy8 hb8
    go_wp2
    go_ret
    exact .mk HB rfl
  | true =>
    have HD : solD ⟨cols, ll⟩ b = none := by
      cases hd : solD ⟨cols, ll⟩ b with
      | none => rfl
      | some d => have := HS.out; rw [solS_dep HC0.out HCb.out.symm hd] at this; injection this with _ h; injection h with h _; cases h
    have hsx : s = solX ⟨cols, ll⟩ b := by
      have := HS.out
      rw [solS_ok HC0.out HCb.out.symm HD] at this
      injection this with h _
      injection h
    have ISX := Lib.hid (hsx ▸ solX_inR OK.out b)
    have HSI : Hid (imageV ll s = b) := Lib.hid (by rw [hsx]; exact sol_image OK.out IB.out (solD_none HD))
    have HLS : s.length ≤ 14 := by have := ISX.out.length; dsimp only at this; omega
    have HVN : Hid (∀ y, verS ⟨cols, ll⟩ b y ≠ 0) := Lib.hid (fun y => by have := ver_image OK.out s y; dsimp only at this; rwa [HSI.out] at this)
    obtain ⟨df, hdf⟩ : ∃ df, df = imageV ll (xorL s x) := ⟨_, rfl⟩
    have HDF : Hid (applyS ⟨cols, ll⟩ (xorL s x) = (df, 0)) := Lib.hid (by rw [applyS_ok HC0.out (OK.out.vecC.2 (ISX.out.xor IX.out)), hdf])
    have HEQ : Hid (decide (im = b) = decide (df.length = 0)) := Lib.hid (by
      rw [hdf, image_xor ISX.out.1 IX.out.1, HSI.out, HI.out]
      rw [Bool.eq_iff_iff, decide_eq_true_eq, decide_eq_true_eq, List.length_eq_zero_iff]
      constructor
      · intro h; rw [h]; exact xorL_self IB.out.1
      · intro h; exact (xorL_eq_nil IB.out.1 (image_inR ll x).1 h).symm)
    obtain ⟨qb, hqb⟩ : ∃ qb, qb = decide (im = b) := ⟨_, rfl⟩
    have HQB := Lib.hid hqb.symm
    rw [← hqb] at HEQ
    clear RC HD hsx hdf hqb
    have hbz : Below w6.heap.size w6 w6 := .refl _ _
    obtain ⟨R0a, R0b⟩ := R0.two
    go_wp2
    go_loopw [13, 14, 84, 88] (fun _ _ i _ wr => ∃ j : Nat, j ≤ ll.length ∧ i = .int .i64 j ∧ Below w6.heap.size w6 wr) (fun _ _ i _ _ => ll.length - (intOf i).toNat)
    case atStart => exact ⟨0, Nat.zero_le _, rfl, hbz⟩
    case round =>
      obtain ⟨j, hj, rfl, hbr⟩ := hrel
      obtain ⟨wo, hwo⟩ : ∃ wo : World, wo = wr := ⟨_, rfl⟩
      rw [← hwo] at hbr ⊢
      clear hwo
      by_cases hlt : j < ll.length
      · have hbz2 : Below wo.heap.size wo wo := .refl _ _
        go_wp2
        go_loopw [14, 88] (fun _ i wi => ∃ n : Nat, n ≤ j ∧ i = .int .i64 n ∧ Below wo.heap.size wo wi) (fun _ i _ => j - (intOf i).toNat)
        case atStart => exact ⟨0, Nat.zero_le _, rfl, hbz2⟩
        case round =>
          obtain ⟨n, hn, rfl, hbi⟩ := hrel
          have hbw := ext_trans hbr hbi
          by_cases hnj : n < j
          · have l := lit_intsS (S := TT) wr wr.heap.size rfl trivial [(n : Int), (j : Int)] 3 (by simp) (by intro z hz; simp at hz; omega)
            have ex := ext_alloc wr (.cells #[.int .i64 (n : Int), .int .i64 (j : Int)] 3)
            have R0i := R0.ext (ext_trans hbw ex)
            obtain ⟨R0a', R0b'⟩ := (R0.ext hbw).two
            obtain ⟨vi, hvi⟩ : ∃ vi, vi = verS ⟨cols, ll⟩ b [(n : Int), (j : Int)] := ⟨_, rfl⟩
            have ev : (vi == 0) = false := by rw [hvi]; simpa using HVN.out _
            have KK := Lib.hid (verify_gen ((hm.ext hbw).ext ex) ((hb.ext hbw).ext ex) l hvi.symm)
            clear hvi l R0i
            go_wp2_with fail
            refine KK.out.mono ?_
            rintro _ wn ⟨_, rfl, hbn, rfl⟩
            have hbf := ext_trans hbi (ext_trans ex hbn)
            clear ex hbn KK
            go_wp2
            go_roundw
            case rel => exact ⟨n + 1, by omega, by go_num, hbf⟩
            case measure => simp [intOf]; omega
          · have l := lit_intsS (S := TT) wr wr.heap.size rfl trivial [(j : Int)] 3 (by simp) (by intro z hz; simp at hz; omega)
            have ex := ext_alloc wr (.cells #[.int .i64 (j : Int)] 3)
            obtain ⟨R0a', R0b'⟩ := (R0.ext hbw).two
            obtain ⟨vi, hvi⟩ : ∃ vi, vi = verS ⟨cols, ll⟩ b [(j : Int)] := ⟨_, rfl⟩
            have ev : (vi == 0) = false := by rw [hvi]; simpa using HVN.out _
            have KK := Lib.hid (verify_gen ((hm.ext hbw).ext ex) ((hb.ext hbw).ext ex) l hvi.symm)
            clear hvi l
            go_wp2_with fail
            refine KK.out.mono ?_
            rintro _ wn ⟨_, rfl, hbn, rfl⟩
            have hbf := ext_trans hbw (ext_trans ex hbn)
            clear ex hbn KK
            go_wp2
            go_roundw
            case rel => exact ⟨j + 1, by omega, by go_num, hbf⟩
            case measure => simp [intOf]; omega
      · clear R0a R0b
        obtain ⟨w50, hw50⟩ : ∃ w50 : World, w50 = wo := ⟨_, rfl⟩
        rw [← hw50] at hbr ⊢
        replace hm := hm.ext hbr
        replace hb := hb.ext hbr
        replace hx := hx.ext hbr
        replace hs := hs.ext hbr
        replace hi := hi.ext hbr
        replace R0 := R0.ext hbr
        replace HB := ext_trans HB hbr
        clear hw50
        have KEEP : Hid (∀ W', Below w50.heap.size w50 W' → (fun w' : World => w'.cell? ⟨w.heap.size, 0, none⟩ = some (.int .i64 cols) ∧ w'.cell? ⟨w.heap.size, 1, none⟩ = some (.slice am ll.length nm)) W') := Lib.hid (fun W' hW' => ⟨(R0.ext hW').two.1, (R0.ext hW').two.2⟩)
        have R0lt := R0.lt
        clear R0
        go_wp2_with fail
        refine region_E (fun w' : World => w'.cell? ⟨w.heap.size, 0, none⟩ = some (.int .i64 cols) ∧ w'.cell? ⟨w.heap.size, 1, none⟩ = some (.slice am ll.length nm)) (fun i => false) (by kernel_rfl) ?_ (fun hHeld => ?_)
        · exact KEEP.out _ (drewN_below _ _ 1)
        refine anyE_take 0 (v := ?_) rfl (by kernel_rfl) (fun _ _ _ h => h) (by rfl) ?hy0r hHeld ?rest0r
        case hy0r => (intro w hSw; (try dsimp only at hSw); go_simp; try with_reducible rfl)
        try simp only [Act.put, List.setIfInBounds_toArray, List.set_cons_zero, List.set_cons_succ]
        refine anyE_take 1 (v := ?_) rfl (by kernel_rfl) (fun _ _ _ h => h) (by rfl) ?hy1r hHeld ?rest1r
        case hy1r => (intro w hSw; (try dsimp only at hSw); go_simp; try with_reducible rfl)
        try simp only [Act.put, List.setIfInBounds_toArray, List.set_cons_zero, List.set_cons_succ]
        refine anyE_take 2 (v := ?_) rfl (by kernel_rfl) (fun _ _ _ h => h) (by rfl) ?hy2r hHeld ?rest2r
        case hy2r => (intro w hSw; (try dsimp only at hSw); go_simp; try with_reducible rfl)
        try simp only [Act.put, List.setIfInBounds_toArray, List.set_cons_zero, List.set_cons_succ]
        refine anyE_one 3 rfl (by kernel_rfl) (fun K hK => ?_)
        go_simp; go_at_call 32; refine (plus_calls (hs.ext (drewN_below _ _ 1)) (hx.ext (drewN_below _ _ 1)) (by omega)).mono ?_; rintro _ w51 ⟨_, rfl, hb51, hp⟩; have hk51 : Below w50.heap.size w50 w51 := ext_trans (drewN_below _ _ 1) hb51
        refine hK.out _ _ (fun _ => KEEP.out _ hk51) (fun hHeld => ?_); replace hHeld := hHeld rfl
        clear hK K
        try simp only [Act.put, List.setIfInBounds_toArray, List.set_cons_zero, List.set_cons_succ]
        refine anyE_one 4 rfl (by kernel_rfl) (fun K hK => ?_)
        go_simp; go_at_call 31; refine (applyP_gen (hm.ext hk51) hp HDF.out).mono ?_; rintro _ w52 ⟨_, rfl, hb52, za, zc, rfl, hz⟩; have hk52 : Below w50.heap.size w50 w52 := ext_trans hk51 hb52; have hq51_52 := hb52
        refine hK.out _ _ (fun _ => KEEP.out _ hk52) (fun hHeld => ?_); replace hHeld := hHeld rfl
        clear hK K
        try simp only [Act.put, List.setIfInBounds_toArray, List.set_cons_zero, List.set_cons_succ]
        refine anyE_take 5 (v := ?_) rfl (by kernel_rfl) (fun _ _ _ h => h) (by rfl) ?hy5r hHeld ?rest5r
        case hy5r => (intro w hSw; (try dsimp only at hSw); go_simp; try with_reducible rfl)
        try simp only [Act.put, List.setIfInBounds_toArray, List.set_cons_zero, List.set_cons_succ]
        refine anyE_take 6 (v := ?_) rfl (by kernel_rfl) (fun _ _ _ h => h) (by rfl) ?hy6r hHeld ?rest6r
        case hy6r => (intro w hSw; (try dsimp only at hSw); go_simp; try with_reducible rfl)
        try simp only [Act.put, List.setIfInBounds_toArray, List.set_cons_zero, List.set_cons_succ]
        refine anyE_take 7 (v := ?_) rfl (by kernel_rfl) (fun _ _ _ h => h) (by rfl) ?hy7r hHeld ?rest7r
        case hy7r => (intro w hSw; (try dsimp only at hSw); go_simp; try with_reducible rfl)
        try simp only [Act.put, List.setIfInBounds_toArray, List.set_cons_zero, List.set_cons_succ]
        refine anyE_take 8 (v := ?_) rfl (by kernel_rfl) (fun _ _ _ h => h) (by rfl) ?hy8r hHeld ?rest8r
        case hy8r => (intro w hSw; (try dsimp only at hSw); go_simp; try with_reducible rfl)
        try simp only [Act.put, List.setIfInBounds_toArray, List.set_cons_zero, List.set_cons_succ]
        refine anyE_take 9 (v := ?_) rfl (by kernel_rfl) (fun _ _ _ h => h) (by rfl) ?hy9r hHeld ?rest9r
        case hy9r => (intro w hSw; (try dsimp only at hSw); go_simp; try with_reducible rfl)
        try simp only [Act.put, List.setIfInBounds_toArray, List.set_cons_zero, List.set_cons_succ]
        refine anyE_done (by kernel_rfl) ?_ _
        replace HB := ext_trans HB hk52
        have hbd : Below w50.heap.size w50 w52 := by assumption
        have KK := Lib.hid (equal_gen (hi.ext hbd) (hb.ext hbd) HQB.out)
        go_wp2_with fail
        refine KK.out.mono ?_
        rintro _ wz ⟨_, rfl, hbz, rfl⟩
        clear KK
        cases qb with
        | true =>
          have e := of_decide_eq_true HEQ.out.symm
          go_wp2
          go_ret
          exact .mk (ext_trans HB hbz) rfl
        | false =>
          have e := of_decide_eq_false HEQ.out.symm
          have e2 : decide (df.length = 0) = false := HEQ.out.symm
          have e3 : ((df.length : Int) == 0) = false := by simpa using e
          go_wp2
          go_ret
          exact .mk (ext_trans HB hbz) rfl
end Go.Proofs.Ytijmjliijjkcbaa