/- Chapter 07: the law's named. -/
import Derived.Test.YthogcbffnbhalaaDoorExSize
import Derived.Test.YthogcbffnbhalaaDoorExPerm
import Derived.Deep.DeepCutAuto
namespace Go.Proofs.YthogcbffnbhalaaDoor
set_option linter.unusedVariables false
open Go.RowKit

theorem bool_eqN {a b : Bool} (h : a = b) : Value.bool a = Value.bool b := by rw [h]
theorem namL_drop {xs : List Ex} {k : Nat} (h : k < xs.length) (b : Bool) : namL (xs.drop k) b = (!(b && decide ((nthE xs k).op ≠ 1)) && (namE (nthE xs k) b && namL (xs.drop (k + 1)) b)) := by
  rw [drop_nthE h]
  simp only [namL]
set_option maxRecDepth 100000 in
set_option maxHeartbeats 4000000 in
theorem named_calls {S : Nat → Prop} {w : World} {e : Ex} {v : Value} (h : ExprV S w e v) : ∀ W (top : Bool), Below w.heap.size w W → sizeE e ≤ 65536 →
    Calls Tryd.prog 5 #[v, .bool top] W (Post W fun _ r => r = .bool (namE e top)) := by
  induction h with
  | mk wo wn ha hl hm hc hx ih =>
    rename_i op num xs a cap us
    intro W top hW hS
    obtain ⟨i0, hi, hz⟩ := info_e
    have hix := idx_three Tryd.underlying22 hi hz ha
    have hlen := length_le_size xs
    simp only [sizeE] at hS
    obtain ⟨R, hR⟩ : ∃ R, R = namE (.node op num xs) top := ⟨_, rfl⟩
    rw [← hR]
    unfold namE at hR
    have ex := ext_alloc W (.cells #[.int .i64 op, .int .i64 num, .slice a xs.length cap] 24)
    have r1 := row_new W [.int .i64 op, .int .i64 num, .slice a xs.length cap] 24
    have co := r1.cell (j := 0) rfl
    have cx := r1.cell (j := 2) rfl
    have l1 := r1.lt
    by_cases h1 : op = 1
    · have d1 : (op == 1) = true := by simp [h1]
      rw [if_pos h1] at hR
      have HR := Lib.hid hR
      clear hR h1
      go_enter Tryd.func5, Tryd.ntmps5
      go_wp2
      go_ret
      exact .mk ex (bool_eqN HR.out.symm)
    have d1 : (op == 1) = false := by simp [h1]
    rw [if_neg h1] at hR
    clear h1
    obtain ⟨nm, hnm⟩ : ∃ nm, nm = nameOp op := ⟨_, rfl⟩
    rw [← hnm] at hR
    have HN := Lib.hid hnm
    clear hnm
    cases top with
    | true =>
      by_cases h0 : op = 0
      · have d0 : (op == 0) = true := by simp [h0]
        rw [if_pos ⟨rfl, h0⟩] at hR
        have HR := Lib.hid hR
        clear hR h0
        go_enter Tryd.func5, Tryd.ntmps5
        go_wp2
        go_ret
        exact .mk ex (bool_eqN HR.out.symm)
      have d0 : (op == 0) = false := by simp [h0]
      rw [if_neg (fun h => h0 h.2)] at hR
      have HR0 : Hid (R = namL (xs.drop 0) nm) := Lib.hid (by rw [List.drop_zero]; exact hR)
      clear hR h0
      go_enter Tryd.func5, Tryd.ntmps5
      go_upto_region 5 with fail
      have co := r1.cell (j := 0) rfl
      go_cut [5] (fun s5 wx => s5 = .bool nm ∧ wx = W.alloc (.cells #[.int .i64 op, .int .i64 num, .slice a xs.length cap] 24))
      case first =>
        by_cases h2 : op = 2
        · have d2 : (op == 2) = true := by simp [h2]
          have HM : Hid (true = nm) := Lib.hid (by rw [HN.out]; symm; unfold nameOp; exact decide_eq_true (.inl h2))
          clear h2
          go_wp2_with fail
          go_meet
          exact ⟨bool_eqN HM.out, rfl⟩
        have d2 : (op == 2) = false := by simp [h2]
        by_cases h3 : op = 3
        · have d3 : (op == 3) = true := by simp [h3]
          have HM : Hid (true = nm) := Lib.hid (by rw [HN.out]; symm; unfold nameOp; exact decide_eq_true (.inr (.inl h3)))
          clear h2 h3
          go_wp2_with fail
          go_meet
          exact ⟨bool_eqN HM.out, rfl⟩
        have d3 : (op == 3) = false := by simp [h3]
        by_cases h4 : op = 4
        · have d4 : (op == 4) = true := by simp [h4]
          have HM : Hid (true = nm) := Lib.hid (by rw [HN.out]; symm; unfold nameOp; exact decide_eq_true (.inr (.inr h4)))
          clear h2 h3 h4
          go_wp2_with fail
          go_meet
          exact ⟨bool_eqN HM.out, rfl⟩
        have d4 : (op == 4) = false := by simp [h4]
        have HM : Hid (false = nm) := Lib.hid (by rw [HN.out]; symm; unfold nameOp; exact decide_eq_false (fun h => by rcases h with h | h | h; exact h2 h; exact h3 h; exact h4 h))
        clear h2 h3 h4
        go_wp2_with fail
        go_meet
        exact ⟨bool_eqN HM.out, rfl⟩
      case rest =>
        obtain ⟨rfl, rfl⟩ := hcut

        go_wp2
        go_loopw [7, 34] (fun _ iv wr => ∃ k : Nat, k ≤ xs.length ∧ iv = .int .i64 k ∧ Below W.heap.size W wr ∧ Row wr W.heap.size 24 [.int .i64 op, .int .i64 num, .slice a xs.length cap] ∧ Hid (R = namL (xs.drop k) nm)) (fun _ iv _ => xs.length - (intOf iv).toNat)
        case atStart => exact ⟨0, by omega, rfl, ex, r1, HR0⟩
        case round =>
          obtain ⟨k, hk, rfl, hb, hR, HRK⟩ := hrel
          by_cases hlt : k < xs.length
          case neg =>
            have HT : Hid (true = R) := Lib.hid (by rw [HRK.out, List.drop_of_length_le (by omega)]; rfl)
            clear HRK
            go_wp2
            go_ret
            exact .mk hb (bool_eqN HT.out)
          have q := hix k hlt
          have hwb := ext_trans hW hb
          obtain ⟨a', cap', e, c0, c1, c2⟩ := elem_parts ha hc hx hlt hwb
          have ik := ih k hlt
          rw [e] at ik
          have hsz := sizeL_nth hlt
          have hb1 := ext_alloc' hb (.cells #[.int .i64 (nthE xs k).op, .int .i64 (nthE xs k).num, .slice a' (nthE xs k).args.length cap'] 24)
          have hwb1 := ext_alloc' hwb (.cells #[.int .i64 (nthE xs k).op, .int .i64 (nthE xs k).num, .slice a' (nthE xs k).args.length cap'] 24)
          have hR1 := hR.alloc (.cells #[.int .i64 (nthE xs k).op, .int .i64 (nthE xs k).num, .slice a' (nthE xs k).args.length cap'] 24)
          have RX := row_new wr [.int .i64 (nthE xs k).op, .int .i64 (nthE xs k).num, .slice a' (nthE xs k).args.length cap'] 24
          have hdr := HRK.out
          rw [namL_drop hlt] at hdr
          obtain ⟨o, ho⟩ : ∃ o, o = (nthE xs k).op := ⟨_, rfl⟩
          have IK := Lib.hid (fun (b : Bool) W2 (hW2 : Below w.heap.size w W2) => ik W2 b hW2 (by omega))
          have HDR := Lib.hid hdr
          have HO := Lib.hid ho
          clear ik hdr ho HRK
          have x0 := RX.cell (j := 0) rfl
          have x1 := RX.cell (j := 1) rfl
          have x2 := RX.cell (j := 2) rfl
          have lx := RX.lt
          cases nm with
          | true =>
            by_cases h1' : (nthE xs k).op = 1
            case neg =>
              have d9 : ((nthE xs k).op != 1) = true := by rw [bne_iff_ne]; exact h1'
              have HT : Hid (false = R) := Lib.hid (by rw [HDR.out, decide_eq_true h1']; rfl)
              clear HDR h1' IK
              go_wp2
              go_ret
              exact .mk hb1 (bool_eqN HT.out)
            have d9 : ((nthE xs k).op != 1) = false := by simp [h1']
            have HDR2 : Hid (R = (namE (nthE xs k) true && namL (xs.drop (k + 1)) true)) := Lib.hid (by rw [HDR.out, decide_eq_false (fun h => h h1')]; rfl)
            clear HDR h1'
            go_wp2_with fail
            refine (IK.out true _ hwb1).mono ?_
            rintro _ w2 ⟨_, rfl, hb2, rfl⟩
            have hb3 := ext_trans hb1 hb2
            have hR3 := hR1.ext hb2
            obtain ⟨z, hz⟩ : ∃ z, z = namE (nthE xs k) true := ⟨_, rfl⟩
            rw [← hz] at HDR2 ⊢
            clear hz IK hb hwb hwb1 hb1 hb2 hR hR1 RX x0 x1 x2 lx c0 c1 c2
            cases z with
            | false =>
              have HT : Hid (false = R) := Lib.hid (by rw [HDR2.out]; rfl)
              clear HDR2
              go_wp2
              go_ret
              exact .mk hb3 (bool_eqN HT.out)
            | true =>
              have HT : Hid (R = namL (xs.drop (k + 1)) true) := Lib.hid (by rw [HDR2.out]; rfl)
              clear HDR2
              go_wp2
              go_roundw
              case rel => exact ⟨k + 1, by omega, by go_num, hb3, hR3, HT⟩
              case measure => simp [intOf]; omega
          | false =>
            have HDR2 : Hid (R = (namE (nthE xs k) false && namL (xs.drop (k + 1)) false)) := Lib.hid (by rw [HDR.out]; rfl)
            clear HDR
            go_wp2_with fail
            refine (IK.out false _ hwb1).mono ?_
            rintro _ w2 ⟨_, rfl, hb2, rfl⟩
            have hb3 := ext_trans hb1 hb2
            have hR3 := hR1.ext hb2
            obtain ⟨z, hz⟩ : ∃ z, z = namE (nthE xs k) false := ⟨_, rfl⟩
            rw [← hz] at HDR2 ⊢
            clear hz IK hb hwb hwb1 hb1 hb2 hR hR1 RX x0 x1 x2 lx c0 c1 c2
            cases z with
            | false =>
              have HT : Hid (false = R) := Lib.hid (by rw [HDR2.out]; rfl)
              clear HDR2
              go_wp2
              go_ret
              exact .mk hb3 (bool_eqN HT.out)
            | true =>
              have HT : Hid (R = namL (xs.drop (k + 1)) false) := Lib.hid (by rw [HDR2.out]; rfl)
              clear HDR2
              go_wp2
              go_roundw
              case rel => exact ⟨k + 1, by omega, by go_num, hb3, hR3, HT⟩
              case measure => simp [intOf]; omega
    | false =>
      rw [if_neg (fun h => by cases h.1)] at hR
      have HR0 : Hid (R = namL (xs.drop 0) nm) := Lib.hid (by rw [List.drop_zero]; exact hR)
      clear hR
      go_enter Tryd.func5, Tryd.ntmps5
      go_upto_region 5 with fail
      have co := r1.cell (j := 0) rfl
      go_cut [5] (fun s5 wx => s5 = .bool nm ∧ wx = W.alloc (.cells #[.int .i64 op, .int .i64 num, .slice a xs.length cap] 24))
      case first =>
        by_cases h2 : op = 2
        · have d2 : (op == 2) = true := by simp [h2]
          have HM : Hid (true = nm) := Lib.hid (by rw [HN.out]; symm; unfold nameOp; exact decide_eq_true (.inl h2))
          clear h2
          go_wp2_with fail
          go_meet
          exact ⟨bool_eqN HM.out, rfl⟩
        have d2 : (op == 2) = false := by simp [h2]
        by_cases h3 : op = 3
        · have d3 : (op == 3) = true := by simp [h3]
          have HM : Hid (true = nm) := Lib.hid (by rw [HN.out]; symm; unfold nameOp; exact decide_eq_true (.inr (.inl h3)))
          clear h2 h3
          go_wp2_with fail
          go_meet
          exact ⟨bool_eqN HM.out, rfl⟩
        have d3 : (op == 3) = false := by simp [h3]
        by_cases h4 : op = 4
        · have d4 : (op == 4) = true := by simp [h4]
          have HM : Hid (true = nm) := Lib.hid (by rw [HN.out]; symm; unfold nameOp; exact decide_eq_true (.inr (.inr h4)))
          clear h2 h3 h4
          go_wp2_with fail
          go_meet
          exact ⟨bool_eqN HM.out, rfl⟩
        have d4 : (op == 4) = false := by simp [h4]
        have HM : Hid (false = nm) := Lib.hid (by rw [HN.out]; symm; unfold nameOp; exact decide_eq_false (fun h => by rcases h with h | h | h; exact h2 h; exact h3 h; exact h4 h))
        clear h2 h3 h4
        go_wp2_with fail
        go_meet
        exact ⟨bool_eqN HM.out, rfl⟩
      case rest =>
        obtain ⟨rfl, rfl⟩ := hcut

        go_wp2
        go_loopw [7, 34] (fun _ iv wr => ∃ k : Nat, k ≤ xs.length ∧ iv = .int .i64 k ∧ Below W.heap.size W wr ∧ Row wr W.heap.size 24 [.int .i64 op, .int .i64 num, .slice a xs.length cap] ∧ Hid (R = namL (xs.drop k) nm)) (fun _ iv _ => xs.length - (intOf iv).toNat)
        case atStart => exact ⟨0, by omega, rfl, ex, r1, HR0⟩
        case round =>
          obtain ⟨k, hk, rfl, hb, hR, HRK⟩ := hrel
          by_cases hlt : k < xs.length
          case neg =>
            have HT : Hid (true = R) := Lib.hid (by rw [HRK.out, List.drop_of_length_le (by omega)]; rfl)
            clear HRK
            go_wp2
            go_ret
            exact .mk hb (bool_eqN HT.out)
          have q := hix k hlt
          have hwb := ext_trans hW hb
          obtain ⟨a', cap', e, c0, c1, c2⟩ := elem_parts ha hc hx hlt hwb
          have ik := ih k hlt
          rw [e] at ik
          have hsz := sizeL_nth hlt
          have hb1 := ext_alloc' hb (.cells #[.int .i64 (nthE xs k).op, .int .i64 (nthE xs k).num, .slice a' (nthE xs k).args.length cap'] 24)
          have hwb1 := ext_alloc' hwb (.cells #[.int .i64 (nthE xs k).op, .int .i64 (nthE xs k).num, .slice a' (nthE xs k).args.length cap'] 24)
          have hR1 := hR.alloc (.cells #[.int .i64 (nthE xs k).op, .int .i64 (nthE xs k).num, .slice a' (nthE xs k).args.length cap'] 24)
          have RX := row_new wr [.int .i64 (nthE xs k).op, .int .i64 (nthE xs k).num, .slice a' (nthE xs k).args.length cap'] 24
          have hdr := HRK.out
          rw [namL_drop hlt] at hdr
          obtain ⟨o, ho⟩ : ∃ o, o = (nthE xs k).op := ⟨_, rfl⟩
          have IK := Lib.hid (fun (b : Bool) W2 (hW2 : Below w.heap.size w W2) => ik W2 b hW2 (by omega))
          have HDR := Lib.hid hdr
          have HO := Lib.hid ho
          clear ik hdr ho HRK
          have x0 := RX.cell (j := 0) rfl
          have x1 := RX.cell (j := 1) rfl
          have x2 := RX.cell (j := 2) rfl
          have lx := RX.lt
          cases nm with
          | true =>
            by_cases h1' : (nthE xs k).op = 1
            case neg =>
              have d9 : ((nthE xs k).op != 1) = true := by rw [bne_iff_ne]; exact h1'
              have HT : Hid (false = R) := Lib.hid (by rw [HDR.out, decide_eq_true h1']; rfl)
              clear HDR h1' IK
              go_wp2
              go_ret
              exact .mk hb1 (bool_eqN HT.out)
            have d9 : ((nthE xs k).op != 1) = false := by simp [h1']
            have HDR2 : Hid (R = (namE (nthE xs k) true && namL (xs.drop (k + 1)) true)) := Lib.hid (by rw [HDR.out, decide_eq_false (fun h => h h1')]; rfl)
            clear HDR h1'
            go_wp2_with fail
            refine (IK.out true _ hwb1).mono ?_
            rintro _ w2 ⟨_, rfl, hb2, rfl⟩
            have hb3 := ext_trans hb1 hb2
            have hR3 := hR1.ext hb2
            obtain ⟨z, hz⟩ : ∃ z, z = namE (nthE xs k) true := ⟨_, rfl⟩
            rw [← hz] at HDR2 ⊢
            clear hz IK hb hwb hwb1 hb1 hb2 hR hR1 RX x0 x1 x2 lx c0 c1 c2
            cases z with
            | false =>
              have HT : Hid (false = R) := Lib.hid (by rw [HDR2.out]; rfl)
              clear HDR2
              go_wp2
              go_ret
              exact .mk hb3 (bool_eqN HT.out)
            | true =>
              have HT : Hid (R = namL (xs.drop (k + 1)) true) := Lib.hid (by rw [HDR2.out]; rfl)
              clear HDR2
              go_wp2
              go_roundw
              case rel => exact ⟨k + 1, by omega, by go_num, hb3, hR3, HT⟩
              case measure => simp [intOf]; omega
          | false =>
            have HDR2 : Hid (R = (namE (nthE xs k) false && namL (xs.drop (k + 1)) false)) := Lib.hid (by rw [HDR.out]; rfl)
            clear HDR
            go_wp2_with fail
            refine (IK.out false _ hwb1).mono ?_
            rintro _ w2 ⟨_, rfl, hb2, rfl⟩
            have hb3 := ext_trans hb1 hb2
            have hR3 := hR1.ext hb2
            obtain ⟨z, hz⟩ : ∃ z, z = namE (nthE xs k) false := ⟨_, rfl⟩
            rw [← hz] at HDR2 ⊢
            clear hz IK hb hwb hwb1 hb1 hb2 hR hR1 RX x0 x1 x2 lx c0 c1 c2
            cases z with
            | false =>
              have HT : Hid (false = R) := Lib.hid (by rw [HDR2.out]; rfl)
              clear HDR2
              go_wp2
              go_ret
              exact .mk hb3 (bool_eqN HT.out)
            | true =>
              have HT : Hid (R = namL (xs.drop (k + 1)) false) := Lib.hid (by rw [HDR2.out]; rfl)
              clear HDR2
              go_wp2
              go_roundw
              case rel => exact ⟨k + 1, by omega, by go_num, hb3, hR3, HT⟩
              case measure => simp [intOf]; omega
end Go.Proofs.YthogcbffnbhalaaDoor
