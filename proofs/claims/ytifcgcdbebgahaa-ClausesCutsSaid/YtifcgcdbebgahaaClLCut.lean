/- The walk of ClausesCuts. Printed by law41.py. -/
import Derived.Test.YtifcgcdbebgahaaClLaw1
namespace Go.Proofs.Ytifcgcdbebgahaa
set_option linter.unusedVariables false
open Go.RowKit
attribute [local go_sem ↓] Go.wp_at_zero Go.wp_at_succ

set_option maxRecDepth 100000 in
set_option maxHeartbeats 8000000 in
theorem walkClausesCuts {w : World} {vx : Value} {x : List Int} (hx : Ints TT w vx x) {vy : Value} {y : List Int} (hy : Ints TT w vy y) (b : Int) :
    Calls Try.prog 8 #[vx, vy, .int .u16 b] w (Post w fun _ r => r = .bool true) := by
  obtain ⟨ax, cx, rfl, _⟩ := hx.form
  obtain ⟨ay, cy, rfl, _⟩ := hy.form
  have HB := Below.refl w.heap.size w
  go_enter Try.func8, Try.ntmps8
  obtain ⟨c1, hc1⟩ : ∃ c1, c1 = clauseE 14 x := ⟨_, rfl⟩
  obtain ⟨c2, hc2⟩ : ∃ c2, c2 = clauseE 14 y := ⟨_, rfl⟩
  have HC1 := Lib.hid hc1.symm
  have HC2 := Lib.hid hc2.symm
  clear hc1 hc2
  go_wp2_with fail
  refine (rclause_calls (n := 14) (hx.ext (by (repeat (first | exact Below.refl _ _ | refine ext_alloc' ?_ _)))) (by omega)).mono ?_
  rintro _ w1 ⟨_, rfl, hb, rfl⟩
  have hYY := ext_trans (by (repeat (first | exact Below.refl _ _ | refine ext_alloc' ?_ _)) : Below w.heap.size w _) hb
  replace hx := hx.ext hYY
  replace hy := hy.ext hYY
  replace HB := ext_trans HB hYY
  clear hYY hb
  rw [HC1.out]
  by_cases h1 : ¬ c1 = 0
  ·
    have e1 : (c1 != 0) = true := by simp [h1]
    clear h1
    go_wp2_with fail
    refine (awake_calls _).mono ?_
    rintro _ w2 ⟨_, rfl, hb, rfl⟩
    have hYY := ext_trans (by (repeat (first | exact Below.refl _ _ | refine ext_alloc' ?_ _)) : Below w1.heap.size w1 _) hb
    replace hx := hx.ext hYY
    replace hy := hy.ext hYY
    replace HB := ext_trans HB hYY
    clear hYY hb
    go_wp2
    go_ret
    exact .mk HB rfl
  have h1 := Classical.not_not.1 h1
  have e1 : (c1 != 0) = false := by simp [h1]
  have G1 : Hid (clauseE 14 x = 0) := Lib.hid (HC1.out.trans h1)
  clear h1
  go_wp2_with fail
  refine (rclause_calls (n := 14) (hy.ext (by (repeat (first | exact Below.refl _ _ | refine ext_alloc' ?_ _)))) (by omega)).mono ?_
  rintro _ w2 ⟨_, rfl, hb, rfl⟩
  have hYY := ext_trans (by (repeat (first | exact Below.refl _ _ | refine ext_alloc' ?_ _)) : Below w1.heap.size w1 _) hb
  replace hx := hx.ext hYY
  replace hy := hy.ext hYY
  replace HB := ext_trans HB hYY
  clear hYY hb
  rw [HC2.out]
  by_cases h2 : ¬ c2 = 0
  ·
    have e2 : (c2 != 0) = true := by simp [h2]
    clear h2
    go_wp2_with fail
    refine (awake_calls _).mono ?_
    rintro _ w3 ⟨_, rfl, hb, rfl⟩
    have hYY := ext_trans (by (repeat (first | exact Below.refl _ _ | refine ext_alloc' ?_ _)) : Below w2.heap.size w2 _) hb
    replace hx := hx.ext hYY
    replace hy := hy.ext hYY
    replace HB := ext_trans HB hYY
    clear hYY hb
    go_wp2
    go_ret
    exact .mk HB rfl
  have h2 := Classical.not_not.1 h2
  have e2 : (c2 != 0) = false := by simp [h2]
  have G2 : Hid (clauseE 14 y = 0) := Lib.hid (HC2.out.trans h2)
  clear h2
  go_wp2_with fail
  refine (model_calls _ (by omega) _).mono ?_
  rintro _ w3 ⟨_, rfl, hb, m, hIM, hOm⟩
  have hYY := ext_trans (by (repeat (first | exact Below.refl _ _ | refine ext_alloc' ?_ _)) : Below w2.heap.size w2 _) hb
  replace hx := hx.ext hYY
  replace hy := hy.ext hYY
  replace HB := ext_trans HB hYY
  clear hYY hb
  have hm := (Ints.of_own hOm (hIM.wf (by omega))).mono (S' := TT) (fun _ _ => trivial)
  obtain ⟨am, cm, rfl, _⟩ := hm.form
  have HIM := Lib.hid hIM
  clear hOm hIM e1 e2
  go_wp2
  go_loopw [8] (fun i wr => ∃ k : Nat, k ≤ 14 ∧ i = .int .i64 ((k : Int) + 1) ∧ Below w.heap.size w wr ∧ Below w3.heap.size w3 wr) (fun i _ => 15 - (intOf i).toNat)
  case atStart => exact ⟨0, by omega, rfl, HB, .refl _ _⟩
  case round =>
    clear HB
    obtain ⟨k, hk, rfl, HB, HBL⟩ := hrel
    replace hx := hx.ext HBL
    replace hy := hy.ext HBL
    replace hm := hm.ext HBL
    by_cases hlt : k < 14
    ·
      obtain ⟨v, hv⟩ : ∃ v, v = (k : Int) + 1 := ⟨_, rfl⟩
      have hv14 : v ≤ 14 := by omega
      have hv1 : 1 ≤ v := by omega
      have HV := Lib.hid hv
      obtain ⟨l, e, hR⟩ : ∃ l e, resolveS x y v = (l, e) := ⟨_, _, rfl⟩
      have HR := Lib.hid hR
      rw [← hv]
      clear hR hv
      have hwv : IntKind.i64.wrap (v + 1) = v + 1 := IntWalk.i64_in _ (by omega)
      have hwn : IntKind.i64.wrap (-v) = -v := IntWalk.i64_in _ (by omega)
      go_wp2_with fail
      refine (res_lit (l := l) (e := e) (n := l.length) (hx.ext (by (repeat (first | exact Below.refl _ _ | refine ext_alloc' ?_ _)))) (hy.ext (by (repeat (first | exact Below.refl _ _ | refine ext_alloc' ?_ _)))) (WF.small (by omega)) HR.out rfl).mono ?_
      rintro _ w1 ⟨_, rfl, hb, a1, k1, rfl, g1⟩
      have hYY := ext_trans (by (repeat (first | exact Below.refl _ _ | refine ext_alloc' ?_ _)) : Below wr.heap.size wr _) hb
      replace hx := hx.ext hYY
      replace hy := hy.ext hYY
      replace hm := hm.ext hYY
      replace HB := ext_trans HB hYY
      replace HBL := ext_trans HBL hYY
      clear hYY hb
      by_cases h0 : e = 0
      ·
        have e0 : (e == 0) = true := by simp [h0]
        have HE0 := Lib.hid h0
        clear h0
        obtain ⟨t1, ht1⟩ : ∃ t1, t1 = trueP x m := ⟨_, rfl⟩
        obtain ⟨t2, ht2⟩ : ∃ t2, t2 = trueP y m := ⟨_, rfl⟩
        obtain ⟨t3, ht3⟩ : ∃ t3, t3 = trueP l m := ⟨_, rfl⟩
        have HT1 := Lib.hid ht1.symm
        have HT2 := Lib.hid ht2.symm
        have HT3 := Lib.hid ht3.symm
        clear ht1 ht2 ht3
        go_wp2_with fail
        refine (rtrue_calls (hx.ext (by (repeat (first | exact Below.refl _ _ | refine ext_alloc' ?_ _)))) (hm.ext (by (repeat (first | exact Below.refl _ _ | refine ext_alloc' ?_ _))))).mono ?_
        rintro _ w2 ⟨_, rfl, hb, rfl⟩
        have hYY := ext_trans (by (repeat (first | exact Below.refl _ _ | refine ext_alloc' ?_ _)) : Below w1.heap.size w1 _) hb
        replace hx := hx.ext hYY
        replace hy := hy.ext hYY
        replace hm := hm.ext hYY
        replace g1 := g1.ext hYY
        replace HB := ext_trans HB hYY
        replace HBL := ext_trans HBL hYY
        clear hYY hb
        rw [HT1.out]
        cases t1 with
        | false =>
          have HN := Lib.hid (cut_none G1.out G2.out ⟨hv1, hv14⟩ HR.out)
          obtain ⟨b1, hb1⟩ : ∃ b1, b1 = memB x v := ⟨_, rfl⟩
          obtain ⟨b2, hb2⟩ : ∃ b2, b2 = memB y (-v) := ⟨_, rfl⟩
          have HB1 := Lib.hid hb1.symm
          have HB2 := Lib.hid hb2.symm
          rw [← hb1, ← hb2] at HN
          clear hb1 hb2
          go_wp2_with fail
          refine (contains_calls (hx.ext (by (repeat (first | exact Below.refl _ _ | refine ext_alloc' ?_ _)))) v).mono ?_
          rintro _ w3 ⟨_, rfl, hb, rfl⟩
          have hYY := ext_trans (by (repeat (first | exact Below.refl _ _ | refine ext_alloc' ?_ _)) : Below w2.heap.size w2 _) hb
          replace hx := hx.ext hYY
          replace hy := hy.ext hYY
          replace hm := hm.ext hYY
          replace g1 := g1.ext hYY
          replace HB := ext_trans HB hYY
          replace HBL := ext_trans HBL hYY
          clear hYY hb
          rw [HB1.out]
          cases b1 with
          | false =>
            have e6 : (e == 6) = true := HN.out
            go_wp2
            go_roundw
            case rel => exact ⟨k + 1, by omega, by rw [HV.out]; go_num, HB, HBL⟩
            case measure => simp [intOf, HV.out]; omega
          | true =>
            go_wp2_with fail
            refine (contains_calls (hy.ext (by (repeat (first | exact Below.refl _ _ | refine ext_alloc' ?_ _)))) (-v)).mono ?_
            rintro _ w4 ⟨_, rfl, hb, rfl⟩
            have hYY := ext_trans (by (repeat (first | exact Below.refl _ _ | refine ext_alloc' ?_ _)) : Below w3.heap.size w3 _) hb
            replace hx := hx.ext hYY
            replace hy := hy.ext hYY
            replace hm := hm.ext hYY
            replace g1 := g1.ext hYY
            replace HB := ext_trans HB hYY
            replace HBL := ext_trans HBL hYY
            clear hYY hb
            rw [HB2.out]
            cases b2 with
            | false =>
              have e6 : (e == 6) = true := HN.out
              go_wp2
              go_roundw
              case rel => exact ⟨k + 1, by omega, by rw [HV.out]; go_num, HB, HBL⟩
              case measure => simp [intOf, HV.out]; omega
            | true =>
              have e6 : (e == 6) = false := HN.out
              go_wp2
              go_roundw
              case rel => exact ⟨k + 1, by omega, by rw [HV.out]; go_num, HB, HBL⟩
              case measure => simp [intOf, HV.out]; omega
        | true =>
          go_wp2_with fail
          refine (rtrue_calls (hy.ext (by (repeat (first | exact Below.refl _ _ | refine ext_alloc' ?_ _)))) (hm.ext (by (repeat (first | exact Below.refl _ _ | refine ext_alloc' ?_ _))))).mono ?_
          rintro _ w3 ⟨_, rfl, hb, rfl⟩
          have hYY := ext_trans (by (repeat (first | exact Below.refl _ _ | refine ext_alloc' ?_ _)) : Below w2.heap.size w2 _) hb
          replace hx := hx.ext hYY
          replace hy := hy.ext hYY
          replace hm := hm.ext hYY
          replace g1 := g1.ext hYY
          replace HB := ext_trans HB hYY
          replace HBL := ext_trans HBL hYY
          clear hYY hb
          rw [HT2.out]
          cases t2 with
          | false =>
            have HN := Lib.hid (cut_none G1.out G2.out ⟨hv1, hv14⟩ HR.out)
            obtain ⟨b1, hb1⟩ : ∃ b1, b1 = memB x v := ⟨_, rfl⟩
            obtain ⟨b2, hb2⟩ : ∃ b2, b2 = memB y (-v) := ⟨_, rfl⟩
            have HB1 := Lib.hid hb1.symm
            have HB2 := Lib.hid hb2.symm
            rw [← hb1, ← hb2] at HN
            clear hb1 hb2
            go_wp2_with fail
            refine (contains_calls (hx.ext (by (repeat (first | exact Below.refl _ _ | refine ext_alloc' ?_ _)))) v).mono ?_
            rintro _ w4 ⟨_, rfl, hb, rfl⟩
            have hYY := ext_trans (by (repeat (first | exact Below.refl _ _ | refine ext_alloc' ?_ _)) : Below w3.heap.size w3 _) hb
            replace hx := hx.ext hYY
            replace hy := hy.ext hYY
            replace hm := hm.ext hYY
            replace g1 := g1.ext hYY
            replace HB := ext_trans HB hYY
            replace HBL := ext_trans HBL hYY
            clear hYY hb
            rw [HB1.out]
            cases b1 with
            | false =>
              have e6 : (e == 6) = true := HN.out
              go_wp2
              go_roundw
              case rel => exact ⟨k + 1, by omega, by rw [HV.out]; go_num, HB, HBL⟩
              case measure => simp [intOf, HV.out]; omega
            | true =>
              go_wp2_with fail
              refine (contains_calls (hy.ext (by (repeat (first | exact Below.refl _ _ | refine ext_alloc' ?_ _)))) (-v)).mono ?_
              rintro _ w5 ⟨_, rfl, hb, rfl⟩
              have hYY := ext_trans (by (repeat (first | exact Below.refl _ _ | refine ext_alloc' ?_ _)) : Below w4.heap.size w4 _) hb
              replace hx := hx.ext hYY
              replace hy := hy.ext hYY
              replace hm := hm.ext hYY
              replace g1 := g1.ext hYY
              replace HB := ext_trans HB hYY
              replace HBL := ext_trans HBL hYY
              clear hYY hb
              rw [HB2.out]
              cases b2 with
              | false =>
                have e6 : (e == 6) = true := HN.out
                go_wp2
                go_roundw
                case rel => exact ⟨k + 1, by omega, by rw [HV.out]; go_num, HB, HBL⟩
                case measure => simp [intOf, HV.out]; omega
              | true =>
                have e6 : (e == 6) = false := HN.out
                go_wp2
                go_roundw
                case rel => exact ⟨k + 1, by omega, by rw [HV.out]; go_num, HB, HBL⟩
                case measure => simp [intOf, HV.out]; omega
          | true =>
            go_wp2_with fail
            refine (rtrue_calls (g1.ext (by (repeat (first | exact Below.refl _ _ | refine ext_alloc' ?_ _)))) (hm.ext (by (repeat (first | exact Below.refl _ _ | refine ext_alloc' ?_ _))))).mono ?_
            rintro _ w4 ⟨_, rfl, hb, rfl⟩
            have hYY := ext_trans (by (repeat (first | exact Below.refl _ _ | refine ext_alloc' ?_ _)) : Below w3.heap.size w3 _) hb
            replace hx := hx.ext hYY
            replace hy := hy.ext hYY
            replace hm := hm.ext hYY
            replace g1 := g1.ext hYY
            replace HB := ext_trans HB hYY
            replace HBL := ext_trans HBL hYY
            clear hYY hb
            obtain rfl : t3 = true := HT3.out.symm.trans (cut_true HIM.out G1.out G2.out (HE0.out ▸ HR.out) HT1.out HT2.out)
            rw [HT3.out]
            have HN := Lib.hid (cut_none G1.out G2.out ⟨hv1, hv14⟩ HR.out)
            obtain ⟨b1, hb1⟩ : ∃ b1, b1 = memB x v := ⟨_, rfl⟩
            obtain ⟨b2, hb2⟩ : ∃ b2, b2 = memB y (-v) := ⟨_, rfl⟩
            have HB1 := Lib.hid hb1.symm
            have HB2 := Lib.hid hb2.symm
            rw [← hb1, ← hb2] at HN
            clear hb1 hb2
            go_wp2_with fail
            refine (contains_calls (hx.ext (by (repeat (first | exact Below.refl _ _ | refine ext_alloc' ?_ _)))) v).mono ?_
            rintro _ w5 ⟨_, rfl, hb, rfl⟩
            have hYY := ext_trans (by (repeat (first | exact Below.refl _ _ | refine ext_alloc' ?_ _)) : Below w4.heap.size w4 _) hb
            replace hx := hx.ext hYY
            replace hy := hy.ext hYY
            replace hm := hm.ext hYY
            replace g1 := g1.ext hYY
            replace HB := ext_trans HB hYY
            replace HBL := ext_trans HBL hYY
            clear hYY hb
            rw [HB1.out]
            cases b1 with
            | false =>
              have e6 : (e == 6) = true := HN.out
              go_wp2
              go_roundw
              case rel => exact ⟨k + 1, by omega, by rw [HV.out]; go_num, HB, HBL⟩
              case measure => simp [intOf, HV.out]; omega
            | true =>
              go_wp2_with fail
              refine (contains_calls (hy.ext (by (repeat (first | exact Below.refl _ _ | refine ext_alloc' ?_ _)))) (-v)).mono ?_
              rintro _ w6 ⟨_, rfl, hb, rfl⟩
              have hYY := ext_trans (by (repeat (first | exact Below.refl _ _ | refine ext_alloc' ?_ _)) : Below w5.heap.size w5 _) hb
              replace hx := hx.ext hYY
              replace hy := hy.ext hYY
              replace hm := hm.ext hYY
              replace g1 := g1.ext hYY
              replace HB := ext_trans HB hYY
              replace HBL := ext_trans HBL hYY
              clear hYY hb
              rw [HB2.out]
              cases b2 with
              | false =>
                have e6 : (e == 6) = true := HN.out
                go_wp2
                go_roundw
                case rel => exact ⟨k + 1, by omega, by rw [HV.out]; go_num, HB, HBL⟩
                case measure => simp [intOf, HV.out]; omega
              | true =>
                have e6 : (e == 6) = false := HN.out
                go_wp2
                go_roundw
                case rel => exact ⟨k + 1, by omega, by rw [HV.out]; go_num, HB, HBL⟩
                case measure => simp [intOf, HV.out]; omega
      ·
        have e0 : (e == 0) = false := by simp [h0]
        clear h0
        have HN := Lib.hid (cut_none G1.out G2.out ⟨hv1, hv14⟩ HR.out)
        obtain ⟨b1, hb1⟩ : ∃ b1, b1 = memB x v := ⟨_, rfl⟩
        obtain ⟨b2, hb2⟩ : ∃ b2, b2 = memB y (-v) := ⟨_, rfl⟩
        have HB1 := Lib.hid hb1.symm
        have HB2 := Lib.hid hb2.symm
        rw [← hb1, ← hb2] at HN
        clear hb1 hb2
        go_wp2_with fail
        refine (contains_calls (hx.ext (by (repeat (first | exact Below.refl _ _ | refine ext_alloc' ?_ _)))) v).mono ?_
        rintro _ w2 ⟨_, rfl, hb, rfl⟩
        have hYY := ext_trans (by (repeat (first | exact Below.refl _ _ | refine ext_alloc' ?_ _)) : Below w1.heap.size w1 _) hb
        replace hx := hx.ext hYY
        replace hy := hy.ext hYY
        replace hm := hm.ext hYY
        replace g1 := g1.ext hYY
        replace HB := ext_trans HB hYY
        replace HBL := ext_trans HBL hYY
        clear hYY hb
        rw [HB1.out]
        cases b1 with
        | false =>
          have e6 : (e == 6) = true := HN.out
          go_wp2
          go_roundw
          case rel => exact ⟨k + 1, by omega, by rw [HV.out]; go_num, HB, HBL⟩
          case measure => simp [intOf, HV.out]; omega
        | true =>
          go_wp2_with fail
          refine (contains_calls (hy.ext (by (repeat (first | exact Below.refl _ _ | refine ext_alloc' ?_ _)))) (-v)).mono ?_
          rintro _ w3 ⟨_, rfl, hb, rfl⟩
          have hYY := ext_trans (by (repeat (first | exact Below.refl _ _ | refine ext_alloc' ?_ _)) : Below w2.heap.size w2 _) hb
          replace hx := hx.ext hYY
          replace hy := hy.ext hYY
          replace hm := hm.ext hYY
          replace g1 := g1.ext hYY
          replace HB := ext_trans HB hYY
          replace HBL := ext_trans HBL hYY
          clear hYY hb
          rw [HB2.out]
          cases b2 with
          | false =>
            have e6 : (e == 6) = true := HN.out
            go_wp2
            go_roundw
            case rel => exact ⟨k + 1, by omega, by rw [HV.out]; go_num, HB, HBL⟩
            case measure => simp [intOf, HV.out]; omega
          | true =>
            have e6 : (e == 6) = false := HN.out
            go_wp2
            go_roundw
            case rel => exact ⟨k + 1, by omega, by rw [HV.out]; go_num, HB, HBL⟩
            case measure => simp [intOf, HV.out]; omega
    ·
      obtain rfl : k = 14 := by omega
      obtain ⟨s, hs⟩ : ∃ s, s = subP x y := ⟨_, rfl⟩
      have HS := Lib.hid hs.symm
      obtain ⟨t1, ht1⟩ : ∃ t1, t1 = trueP x m := ⟨_, rfl⟩
      obtain ⟨t2, ht2⟩ : ∃ t2, t2 = trueP y m := ⟨_, rfl⟩
      have HT1 := Lib.hid ht1.symm
      have HT2 := Lib.hid ht2.symm
      clear hs ht1 ht2 hlt
      go_wp2_with fail
      refine (subsumes_calls (hx.ext (by (repeat (first | exact Below.refl _ _ | refine ext_alloc' ?_ _)))) (hy.ext (by (repeat (first | exact Below.refl _ _ | refine ext_alloc' ?_ _))))).mono ?_
      rintro _ w1 ⟨_, rfl, hb, rfl⟩
      have hYY := ext_trans (by (repeat (first | exact Below.refl _ _ | refine ext_alloc' ?_ _)) : Below wr.heap.size wr _) hb
      replace hx := hx.ext hYY
      replace hy := hy.ext hYY
      replace hm := hm.ext hYY
      replace HB := ext_trans HB hYY
      replace HBL := ext_trans HBL hYY
      clear hYY hb
      rw [HS.out]
      cases s with
      | false =>
        go_wp2_with fail
        refine (subsumes_calls (hx.ext (by (repeat (first | exact Below.refl _ _ | refine ext_alloc' ?_ _)))) (hx.ext (by (repeat (first | exact Below.refl _ _ | refine ext_alloc' ?_ _))))).mono ?_
        rintro _ w2 ⟨_, rfl, hb, rfl⟩
        have hYY := ext_trans (by (repeat (first | exact Below.refl _ _ | refine ext_alloc' ?_ _)) : Below w1.heap.size w1 _) hb
        replace hx := hx.ext hYY
        replace hy := hy.ext hYY
        replace hm := hm.ext hYY
        replace HB := ext_trans HB hYY
        replace HBL := ext_trans HBL hYY
        clear hYY hb
        rw [sub_self]
        go_wp2_with fail
        refine (awake_calls _).mono ?_
        rintro _ w3 ⟨_, rfl, hb, rfl⟩
        have hYY := ext_trans (by (repeat (first | exact Below.refl _ _ | refine ext_alloc' ?_ _)) : Below w2.heap.size w2 _) hb
        replace hx := hx.ext hYY
        replace hy := hy.ext hYY
        replace hm := hm.ext hYY
        replace HB := ext_trans HB hYY
        replace HBL := ext_trans HBL hYY
        clear hYY hb
        go_wp2
        go_ret
        exact .mk HB rfl
      | true =>
        go_wp2_with fail
        refine (rtrue_calls (hx.ext (by (repeat (first | exact Below.refl _ _ | refine ext_alloc' ?_ _)))) (hm.ext (by (repeat (first | exact Below.refl _ _ | refine ext_alloc' ?_ _))))).mono ?_
        rintro _ w2 ⟨_, rfl, hb, rfl⟩
        have hYY := ext_trans (by (repeat (first | exact Below.refl _ _ | refine ext_alloc' ?_ _)) : Below w1.heap.size w1 _) hb
        replace hx := hx.ext hYY
        replace hy := hy.ext hYY
        replace hm := hm.ext hYY
        replace HB := ext_trans HB hYY
        replace HBL := ext_trans HBL hYY
        clear hYY hb
        rw [HT1.out]
        cases t1 with
        | false =>
          go_wp2_with fail
          refine (subsumes_calls (hx.ext (by (repeat (first | exact Below.refl _ _ | refine ext_alloc' ?_ _)))) (hx.ext (by (repeat (first | exact Below.refl _ _ | refine ext_alloc' ?_ _))))).mono ?_
          rintro _ w3 ⟨_, rfl, hb, rfl⟩
          have hYY := ext_trans (by (repeat (first | exact Below.refl _ _ | refine ext_alloc' ?_ _)) : Below w2.heap.size w2 _) hb
          replace hx := hx.ext hYY
          replace hy := hy.ext hYY
          replace hm := hm.ext hYY
          replace HB := ext_trans HB hYY
          replace HBL := ext_trans HBL hYY
          clear hYY hb
          rw [sub_self]
          go_wp2_with fail
          refine (awake_calls _).mono ?_
          rintro _ w4 ⟨_, rfl, hb, rfl⟩
          have hYY := ext_trans (by (repeat (first | exact Below.refl _ _ | refine ext_alloc' ?_ _)) : Below w3.heap.size w3 _) hb
          replace hx := hx.ext hYY
          replace hy := hy.ext hYY
          replace hm := hm.ext hYY
          replace HB := ext_trans HB hYY
          replace HBL := ext_trans HBL hYY
          clear hYY hb
          go_wp2
          go_ret
          exact .mk HB rfl
        | true =>
          go_wp2_with fail
          refine (rtrue_calls (hy.ext (by (repeat (first | exact Below.refl _ _ | refine ext_alloc' ?_ _)))) (hm.ext (by (repeat (first | exact Below.refl _ _ | refine ext_alloc' ?_ _))))).mono ?_
          rintro _ w3 ⟨_, rfl, hb, rfl⟩
          have hYY := ext_trans (by (repeat (first | exact Below.refl _ _ | refine ext_alloc' ?_ _)) : Below w2.heap.size w2 _) hb
          replace hx := hx.ext hYY
          replace hy := hy.ext hYY
          replace hm := hm.ext hYY
          replace HB := ext_trans HB hYY
          replace HBL := ext_trans HBL hYY
          clear hYY hb
          rw [sub_true HS.out HT1.out]
          go_wp2_with fail
          refine (subsumes_calls (hx.ext (by (repeat (first | exact Below.refl _ _ | refine ext_alloc' ?_ _)))) (hx.ext (by (repeat (first | exact Below.refl _ _ | refine ext_alloc' ?_ _))))).mono ?_
          rintro _ w4 ⟨_, rfl, hb, rfl⟩
          have hYY := ext_trans (by (repeat (first | exact Below.refl _ _ | refine ext_alloc' ?_ _)) : Below w3.heap.size w3 _) hb
          replace hx := hx.ext hYY
          replace hy := hy.ext hYY
          replace hm := hm.ext hYY
          replace HB := ext_trans HB hYY
          replace HBL := ext_trans HBL hYY
          clear hYY hb
          rw [sub_self]
          go_wp2_with fail
          refine (awake_calls _).mono ?_
          rintro _ w5 ⟨_, rfl, hb, rfl⟩
          have hYY := ext_trans (by (repeat (first | exact Below.refl _ _ | refine ext_alloc' ?_ _)) : Below w4.heap.size w4 _) hb
          replace hx := hx.ext hYY
          replace hy := hy.ext hYY
          replace hm := hm.ext hYY
          replace HB := ext_trans HB hYY
          replace HBL := ext_trans HBL hYY
          clear hYY hb
          go_wp2
          go_ret
          exact .mk HB rfl
end Go.Proofs.Ytifcgcdbebgahaa
