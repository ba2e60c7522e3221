/- What an expression uses, on both sides. -/
import Derived.Test.YtifkkajgcekafaaDoorExKind
import Derived.Laws.BitsAllLaws
import Derived.Laws.BitsLemmas
namespace Go.Proofs.YtifkkajgcekafaaDoor
set_option linter.unusedVariables false
open Go.RowKit

theorem ofInt_i64 (a : Nat) (ha : a < 9223372036854775808) : (BitVec.ofInt 64 (a : Int)).toNat = a := by
  rw [BitVec.ofInt_natCast, BitVec.toNat_ofNat]; exact Nat.mod_eq_of_lt (by omega)
theorem i64_or_nat (a b : Nat) (ha : a < 9223372036854775808) (hb : b < 9223372036854775808) : bits .or .i64 (a : Int) (b : Int) = ((a ||| b : Nat) : Int) := by
  have hx : a ||| b < 2 ^ 63 := Nat.or_lt_two_pow (by omega) (by omega)
  show IntKind.i64.wrap ((BitVec.ofInt 64 (a : Int) ||| BitVec.ofInt 64 (b : Int)).toNat : Int) = _
  rw [BitVec.toNat_or, ofInt_i64 a ha, ofInt_i64 b hb, IntKind.wrap_i64]
  omega
theorem ownUse_lt (op : Int) : ownUse op < 8 := by unfold ownUse; split <;> (try split) <;> (try split) <;> omega
mutual
theorem usesE_lt : ∀ e : Ex, usesE e < 8
  | .node op _ xs => by rw [usesE]; exact Nat.or_lt_two_pow (n := 3) (ownUse_lt op) (usesL_lt xs)
theorem usesL_lt : ∀ l : List Ex, usesL l < 8
  | [] => by simp [usesL]
  | e :: es => by rw [usesL]; exact Nat.or_lt_two_pow (n := 3) (usesE_lt e) (usesL_lt es)
end

set_option maxRecDepth 100000 in
set_option maxHeartbeats 2000000 in
theorem uses_calls {S : Nat → Prop} {w : World} {e : Ex} {v : Value} (h : ExprV S w e v) : ∀ W, Below w.heap.size w W → sizeE e ≤ 100000 →
    Calls Tryd.prog 24 #[v] W (Post W fun _ r => r = .int .i64 (usesE e)) := by
  induction h with
  | mk wo wn ha hl hm hc hx ih =>
    rename_i op num xs a cap us
    intro W hW hS
    obtain ⟨i0, hi, hz⟩ := info_e
    have hix := idx_three Tryd.underlying22 hi hz ha
    have hlen := length_le_size xs
    simp only [sizeE] at hS
    have HUE := Lib.hid (show usesE (.node op num xs) = ownUse op ||| usesL xs by rw [usesE])
    obtain ⟨R, hR⟩ : ∃ R : Int, R = (usesE (.node op num xs) : Nat) := ⟨_, rfl⟩
    have HR := Lib.hid hR
    rw [← hR]
    clear hR
    go_enter Tryd.func24, Tryd.ntmps24
    by_cases o2 : op = 2
    · have g2 : (op == 2) = true := beq_iff_eq.2 o2
      have HOWN := Lib.hid (show ownUse op = 1 by unfold ownUse; rw [if_pos o2])
      clear o2
      go_wp2
      go_loopw [3, 17] (fun u i wr => ∃ k : Nat, k ≤ xs.length ∧ i = .int .i64 k ∧ u = .int .i64 (ownUse op ||| usesL (xs.take k) : Nat) ∧ Below W.heap.size W wr) (fun _ i _ => xs.length - (intOf i).toNat)
      case atStart => exact ⟨0, by omega, rfl, by rw [HOWN.out]; simp [usesL], ext_alloc W _⟩
      case round =>
        obtain ⟨k, hk, rfl, rfl, hb⟩ := hrel
        have hsz0 := hb.size
        obtain ⟨m, hm2⟩ : ∃ m, m = ownUse op ||| usesL (xs.take k) := ⟨_, rfl⟩
        rw [← hm2]
        have hmlt : m < 8 := by rw [hm2]; exact Nat.or_lt_two_pow (n := 3) (ownUse_lt op) (usesL_lt _)
        have HM := Lib.hid hm2
        clear hm2
        by_cases hlt : k < xs.length
        · have q := hix k hlt
          have hwb := ext_trans hW hb
          obtain ⟨a', cap', e, c0, c1, c2⟩ := elem_parts ha hc hx hlt hwb
          have ik := ih k hlt
          rw [e] at ik
          have hsz := sizeL_nth hlt
          have HT := Lib.hid (take_nthE hlt)
          have hul := usesE_lt (nthE xs k)
          have hor := i64_or_nat m (usesE (nthE xs k)) (by omega) (by omega)
          go_wp2_with fail
          refine (ik _ (ext_alloc' hwb _) (by omega)).mono ?_
          rintro _ w2 ⟨_, rfl, hb2, rfl⟩
          have e3 := (ext_alloc' hb (.cells #[.int .i64 (nthE xs k).op, .int .i64 (nthE xs k).num, .slice a' (nthE xs k).args.length cap'] 24)).trans (hb2.mono (by simp; have := hb.size; omega))
          go_wp2
          go_roundw
          case rel => exact ⟨k + 1, by omega, by go_num, by rw [HT.out, usesL_snoc, HM.out, Nat.or_assoc], e3⟩
          case measure => simp [intOf]; omega
        · have HTK := Lib.hid (show xs.take k = xs from List.take_of_length_le (by omega))
          go_wp2
          go_ret
          exact .mk hb (int_eq (by rw [HR.out, HUE.out, HM.out, HTK.out]))
    · have g2 : (op == 2) = false := beq_eq_false_iff_ne.2 o2
      by_cases o3 : op = 3
      · have g3 : (op == 3) = true := beq_iff_eq.2 o3
        have HOWN := Lib.hid (show ownUse op = 2 by unfold ownUse; rw [if_neg o2, if_pos o3])
        clear o2 o3
        go_wp2
        go_loopw [3, 17] (fun u i wr => ∃ k : Nat, k ≤ xs.length ∧ i = .int .i64 k ∧ u = .int .i64 (ownUse op ||| usesL (xs.take k) : Nat) ∧ Below W.heap.size W wr) (fun _ i _ => xs.length - (intOf i).toNat)
        case atStart => exact ⟨0, by omega, rfl, by rw [HOWN.out]; simp [usesL], ext_alloc W _⟩
        case round =>
          obtain ⟨k, hk, rfl, rfl, hb⟩ := hrel
          have hsz0 := hb.size
          obtain ⟨m, hm2⟩ : ∃ m, m = ownUse op ||| usesL (xs.take k) := ⟨_, rfl⟩
          rw [← hm2]
          have hmlt : m < 8 := by rw [hm2]; exact Nat.or_lt_two_pow (n := 3) (ownUse_lt op) (usesL_lt _)
          have HM := Lib.hid hm2
          clear hm2
          by_cases hlt : k < xs.length
          · have q := hix k hlt
            have hwb := ext_trans hW hb
            obtain ⟨a', cap', e, c0, c1, c2⟩ := elem_parts ha hc hx hlt hwb
            have ik := ih k hlt
            rw [e] at ik
            have hsz := sizeL_nth hlt
            have HT := Lib.hid (take_nthE hlt)
            have hul := usesE_lt (nthE xs k)
            have hor := i64_or_nat m (usesE (nthE xs k)) (by omega) (by omega)
            go_wp2_with fail
            refine (ik _ (ext_alloc' hwb _) (by omega)).mono ?_
            rintro _ w2 ⟨_, rfl, hb2, rfl⟩
            have e3 := (ext_alloc' hb (.cells #[.int .i64 (nthE xs k).op, .int .i64 (nthE xs k).num, .slice a' (nthE xs k).args.length cap'] 24)).trans (hb2.mono (by simp; have := hb.size; omega))
            go_wp2
            go_roundw
            case rel => exact ⟨k + 1, by omega, by go_num, by rw [HT.out, usesL_snoc, HM.out, Nat.or_assoc], e3⟩
            case measure => simp [intOf]; omega
          · have HTK := Lib.hid (show xs.take k = xs from List.take_of_length_le (by omega))
            go_wp2
            go_ret
            exact .mk hb (int_eq (by rw [HR.out, HUE.out, HM.out, HTK.out]))
      · have g3 : (op == 3) = false := beq_eq_false_iff_ne.2 o3
        by_cases o4 : op = 4
        · have g4 : (op == 4) = true := beq_iff_eq.2 o4
          have HOWN := Lib.hid (show ownUse op = 4 by unfold ownUse; rw [if_neg o2, if_neg o3, if_pos o4])
          clear o2 o3 o4
          go_wp2
          go_loopw [3, 17] (fun u i wr => ∃ k : Nat, k ≤ xs.length ∧ i = .int .i64 k ∧ u = .int .i64 (ownUse op ||| usesL (xs.take k) : Nat) ∧ Below W.heap.size W wr) (fun _ i _ => xs.length - (intOf i).toNat)
          case atStart => exact ⟨0, by omega, rfl, by rw [HOWN.out]; simp [usesL], ext_alloc W _⟩
          case round =>
            obtain ⟨k, hk, rfl, rfl, hb⟩ := hrel
            have hsz0 := hb.size
            obtain ⟨m, hm2⟩ : ∃ m, m = ownUse op ||| usesL (xs.take k) := ⟨_, rfl⟩
            rw [← hm2]
            have hmlt : m < 8 := by rw [hm2]; exact Nat.or_lt_two_pow (n := 3) (ownUse_lt op) (usesL_lt _)
            have HM := Lib.hid hm2
            clear hm2
            by_cases hlt : k < xs.length
            · have q := hix k hlt
              have hwb := ext_trans hW hb
              obtain ⟨a', cap', e, c0, c1, c2⟩ := elem_parts ha hc hx hlt hwb
              have ik := ih k hlt
              rw [e] at ik
              have hsz := sizeL_nth hlt
              have HT := Lib.hid (take_nthE hlt)
              have hul := usesE_lt (nthE xs k)
              have hor := i64_or_nat m (usesE (nthE xs k)) (by omega) (by omega)
              go_wp2_with fail
              refine (ik _ (ext_alloc' hwb _) (by omega)).mono ?_
              rintro _ w2 ⟨_, rfl, hb2, rfl⟩
              have e3 := (ext_alloc' hb (.cells #[.int .i64 (nthE xs k).op, .int .i64 (nthE xs k).num, .slice a' (nthE xs k).args.length cap'] 24)).trans (hb2.mono (by simp; have := hb.size; omega))
              go_wp2
              go_roundw
              case rel => exact ⟨k + 1, by omega, by go_num, by rw [HT.out, usesL_snoc, HM.out, Nat.or_assoc], e3⟩
              case measure => simp [intOf]; omega
            · have HTK := Lib.hid (show xs.take k = xs from List.take_of_length_le (by omega))
              go_wp2
              go_ret
              exact .mk hb (int_eq (by rw [HR.out, HUE.out, HM.out, HTK.out]))
        · have g4 : (op == 4) = false := beq_eq_false_iff_ne.2 o4
          have HOWN := Lib.hid (show ownUse op = 0 by unfold ownUse; rw [if_neg o2, if_neg o3, if_neg o4])
          clear o2 o3 o4
          go_wp2
          go_loopw [3, 17] (fun u i wr => ∃ k : Nat, k ≤ xs.length ∧ i = .int .i64 k ∧ u = .int .i64 (ownUse op ||| usesL (xs.take k) : Nat) ∧ Below W.heap.size W wr) (fun _ i _ => xs.length - (intOf i).toNat)
          case atStart => exact ⟨0, by omega, rfl, by rw [HOWN.out]; simp [usesL], ext_alloc W _⟩
          case round =>
            obtain ⟨k, hk, rfl, rfl, hb⟩ := hrel
            have hsz0 := hb.size
            obtain ⟨m, hm2⟩ : ∃ m, m = ownUse op ||| usesL (xs.take k) := ⟨_, rfl⟩
            rw [← hm2]
            have hmlt : m < 8 := by rw [hm2]; exact Nat.or_lt_two_pow (n := 3) (ownUse_lt op) (usesL_lt _)
            have HM := Lib.hid hm2
            clear hm2
            by_cases hlt : k < xs.length
            · have q := hix k hlt
              have hwb := ext_trans hW hb
              obtain ⟨a', cap', e, c0, c1, c2⟩ := elem_parts ha hc hx hlt hwb
              have ik := ih k hlt
              rw [e] at ik
              have hsz := sizeL_nth hlt
              have HT := Lib.hid (take_nthE hlt)
              have hul := usesE_lt (nthE xs k)
              have hor := i64_or_nat m (usesE (nthE xs k)) (by omega) (by omega)
              go_wp2_with fail
              refine (ik _ (ext_alloc' hwb _) (by omega)).mono ?_
              rintro _ w2 ⟨_, rfl, hb2, rfl⟩
              have e3 := (ext_alloc' hb (.cells #[.int .i64 (nthE xs k).op, .int .i64 (nthE xs k).num, .slice a' (nthE xs k).args.length cap'] 24)).trans (hb2.mono (by simp; have := hb.size; omega))
              go_wp2
              go_roundw
              case rel => exact ⟨k + 1, by omega, by go_num, by rw [HT.out, usesL_snoc, HM.out, Nat.or_assoc], e3⟩
              case measure => simp [intOf]; omega
            · have HTK := Lib.hid (show xs.take k = xs from List.take_of_length_le (by omega))
              go_wp2
              go_ret
              exact .mk hb (int_eq (by rw [HR.out, HUE.out, HM.out, HTK.out]))

set_option maxRecDepth 100000 in
set_option maxHeartbeats 2000000 in
theorem refUses_calls {S : Nat → Prop} {w : World} {e : Ex} {v : Value} (h : ExprV S w e v) : ∀ W, Below w.heap.size w W → sizeE e ≤ 100000 →
    Calls Tryd.prog 31 #[v] W (Post W fun _ r => r = .int .i64 (usesE e)) := by
  induction h with
  | mk wo wn ha hl hm hc hx ih =>
    rename_i op num xs a cap us
    intro W hW hS
    obtain ⟨i0, hi, hz⟩ := info_e
    have hix := idx_three Tryd.underlying22 hi hz ha
    have hlen := length_le_size xs
    simp only [sizeE] at hS
    have HUE := Lib.hid (show usesE (.node op num xs) = ownUse op ||| usesL xs by rw [usesE])
    obtain ⟨R, hR⟩ : ∃ R : Int, R = (usesE (.node op num xs) : Nat) := ⟨_, rfl⟩
    have HR := Lib.hid hR
    rw [← hR]
    clear hR
    go_enter Tryd.func31, Tryd.ntmps31
    by_cases o2 : op = 2
    · have g2 : (op == 2) = true := beq_iff_eq.2 o2
      have HOWN := Lib.hid (show ownUse op = 1 by unfold ownUse; rw [if_pos o2])
      clear o2
      go_wp2
      go_loopw [3, 4] (fun u i wr => ∃ k : Nat, k ≤ xs.length ∧ i = .int .i64 k ∧ u = .int .i64 (ownUse op ||| usesL (xs.take k) : Nat) ∧ Below W.heap.size W wr ∧ Row wr W.heap.size 24 [.int .i64 op, .int .i64 num, .slice a xs.length cap]) (fun _ i _ => xs.length - (intOf i).toNat)
      case atStart => exact ⟨0, by omega, rfl, by rw [HOWN.out]; simp [usesL], ext_alloc W _, row_new _ _ _⟩
      case round =>
        obtain ⟨k, hk, rfl, rfl, hb, hRw⟩ := hrel
        have cr := hRw.cell (j := 2) rfl
        obtain ⟨m, hm2⟩ : ∃ m, m = ownUse op ||| usesL (xs.take k) := ⟨_, rfl⟩
        rw [← hm2]
        have hmlt : m < 8 := by rw [hm2]; exact Nat.or_lt_two_pow (n := 3) (ownUse_lt op) (usesL_lt _)
        have HM := Lib.hid hm2
        clear hm2
        by_cases hlt : k < xs.length
        · have q := hix k hlt
          have hwb := ext_trans hW hb
          obtain ⟨a', cap', e, c0, c1, c2⟩ := elem_parts ha hc hx hlt hwb
          have ik := ih k hlt
          rw [e] at ik
          have hsz := sizeL_nth hlt
          have HT := Lib.hid (take_nthE hlt)
          have hul := usesE_lt (nthE xs k)
          have hor := i64_or_nat m (usesE (nthE xs k)) (by omega) (by omega)
          go_wp2_with fail
          refine (ik _ hwb (by omega)).mono ?_
          rintro _ w2 ⟨_, rfl, hb2, rfl⟩
          have e3 := ext_trans hb hb2
          go_wp2
          go_roundw
          case rel => exact ⟨k + 1, by omega, by go_num, by rw [HT.out, usesL_snoc, HM.out, Nat.or_assoc], e3, hRw.ext hb2⟩
          case measure => simp [intOf]; omega
        · have HTK := Lib.hid (show xs.take k = xs from List.take_of_length_le (by omega))
          go_wp2
          go_ret
          exact .mk hb (int_eq (by rw [HR.out, HUE.out, HM.out, HTK.out]))
    · have g2 : (op == 2) = false := beq_eq_false_iff_ne.2 o2
      by_cases o3 : op = 3
      · have g3 : (op == 3) = true := beq_iff_eq.2 o3
        have HOWN := Lib.hid (show ownUse op = 2 by unfold ownUse; rw [if_neg o2, if_pos o3])
        clear o2 o3
        go_wp2
        go_loopw [3, 4] (fun u i wr => ∃ k : Nat, k ≤ xs.length ∧ i = .int .i64 k ∧ u = .int .i64 (ownUse op ||| usesL (xs.take k) : Nat) ∧ Below W.heap.size W wr ∧ Row wr W.heap.size 24 [.int .i64 op, .int .i64 num, .slice a xs.length cap]) (fun _ i _ => xs.length - (intOf i).toNat)
        case atStart => exact ⟨0, by omega, rfl, by rw [HOWN.out]; simp [usesL], ext_alloc W _, row_new _ _ _⟩
        case round =>
          obtain ⟨k, hk, rfl, rfl, hb, hRw⟩ := hrel
          have cr := hRw.cell (j := 2) rfl
          obtain ⟨m, hm2⟩ : ∃ m, m = ownUse op ||| usesL (xs.take k) := ⟨_, rfl⟩
          rw [← hm2]
          have hmlt : m < 8 := by rw [hm2]; exact Nat.or_lt_two_pow (n := 3) (ownUse_lt op) (usesL_lt _)
          have HM := Lib.hid hm2
          clear hm2
          by_cases hlt : k < xs.length
          · have q := hix k hlt
            have hwb := ext_trans hW hb
            obtain ⟨a', cap', e, c0, c1, c2⟩ := elem_parts ha hc hx hlt hwb
            have ik := ih k hlt
            rw [e] at ik
            have hsz := sizeL_nth hlt
            have HT := Lib.hid (take_nthE hlt)
            have hul := usesE_lt (nthE xs k)
            have hor := i64_or_nat m (usesE (nthE xs k)) (by omega) (by omega)
            go_wp2_with fail
            refine (ik _ hwb (by omega)).mono ?_
            rintro _ w2 ⟨_, rfl, hb2, rfl⟩
            have e3 := ext_trans hb hb2
            go_wp2
            go_roundw
            case rel => exact ⟨k + 1, by omega, by go_num, by rw [HT.out, usesL_snoc, HM.out, Nat.or_assoc], e3, hRw.ext hb2⟩
            case measure => simp [intOf]; omega
          · have HTK := Lib.hid (show xs.take k = xs from List.take_of_length_le (by omega))
            go_wp2
            go_ret
            exact .mk hb (int_eq (by rw [HR.out, HUE.out, HM.out, HTK.out]))
      · have g3 : (op == 3) = false := beq_eq_false_iff_ne.2 o3
        by_cases o4 : op = 4
        · have g4 : (op == 4) = true := beq_iff_eq.2 o4
          have HOWN := Lib.hid (show ownUse op = 4 by unfold ownUse; rw [if_neg o2, if_neg o3, if_pos o4])
          clear o2 o3 o4
          go_wp2
          go_loopw [3, 4] (fun u i wr => ∃ k : Nat, k ≤ xs.length ∧ i = .int .i64 k ∧ u = .int .i64 (ownUse op ||| usesL (xs.take k) : Nat) ∧ Below W.heap.size W wr ∧ Row wr W.heap.size 24 [.int .i64 op, .int .i64 num, .slice a xs.length cap]) (fun _ i _ => xs.length - (intOf i).toNat)
          case atStart => exact ⟨0, by omega, rfl, by rw [HOWN.out]; simp [usesL], ext_alloc W _, row_new _ _ _⟩
          case round =>
            obtain ⟨k, hk, rfl, rfl, hb, hRw⟩ := hrel
            have cr := hRw.cell (j := 2) rfl
            obtain ⟨m, hm2⟩ : ∃ m, m = ownUse op ||| usesL (xs.take k) := ⟨_, rfl⟩
            rw [← hm2]
            have hmlt : m < 8 := by rw [hm2]; exact Nat.or_lt_two_pow (n := 3) (ownUse_lt op) (usesL_lt _)
            have HM := Lib.hid hm2
            clear hm2
            by_cases hlt : k < xs.length
            · have q := hix k hlt
              have hwb := ext_trans hW hb
              obtain ⟨a', cap', e, c0, c1, c2⟩ := elem_parts ha hc hx hlt hwb
              have ik := ih k hlt
              rw [e] at ik
              have hsz := sizeL_nth hlt
              have HT := Lib.hid (take_nthE hlt)
              have hul := usesE_lt (nthE xs k)
              have hor := i64_or_nat m (usesE (nthE xs k)) (by omega) (by omega)
              go_wp2_with fail
              refine (ik _ hwb (by omega)).mono ?_
              rintro _ w2 ⟨_, rfl, hb2, rfl⟩
              have e3 := ext_trans hb hb2
              go_wp2
              go_roundw
              case rel => exact ⟨k + 1, by omega, by go_num, by rw [HT.out, usesL_snoc, HM.out, Nat.or_assoc], e3, hRw.ext hb2⟩
              case measure => simp [intOf]; omega
            · have HTK := Lib.hid (show xs.take k = xs from List.take_of_length_le (by omega))
              go_wp2
              go_ret
              exact .mk hb (int_eq (by rw [HR.out, HUE.out, HM.out, HTK.out]))
        · have g4 : (op == 4) = false := beq_eq_false_iff_ne.2 o4
          have HOWN := Lib.hid (show ownUse op = 0 by unfold ownUse; rw [if_neg o2, if_neg o3, if_neg o4])
          clear o2 o3 o4
          go_wp2
          go_loopw [3, 4] (fun u i wr => ∃ k : Nat, k ≤ xs.length ∧ i = .int .i64 k ∧ u = .int .i64 (ownUse op ||| usesL (xs.take k) : Nat) ∧ Below W.heap.size W wr ∧ Row wr W.heap.size 24 [.int .i64 op, .int .i64 num, .slice a xs.length cap]) (fun _ i _ => xs.length - (intOf i).toNat)
          case atStart => exact ⟨0, by omega, rfl, by rw [HOWN.out]; simp [usesL], ext_alloc W _, row_new _ _ _⟩
          case round =>
            obtain ⟨k, hk, rfl, rfl, hb, hRw⟩ := hrel
            have cr := hRw.cell (j := 2) rfl
            obtain ⟨m, hm2⟩ : ∃ m, m = ownUse op ||| usesL (xs.take k) := ⟨_, rfl⟩
            rw [← hm2]
            have hmlt : m < 8 := by rw [hm2]; exact Nat.or_lt_two_pow (n := 3) (ownUse_lt op) (usesL_lt _)
            have HM := Lib.hid hm2
            clear hm2
            by_cases hlt : k < xs.length
            · have q := hix k hlt
              have hwb := ext_trans hW hb
              obtain ⟨a', cap', e, c0, c1, c2⟩ := elem_parts ha hc hx hlt hwb
              have ik := ih k hlt
              rw [e] at ik
              have hsz := sizeL_nth hlt
              have HT := Lib.hid (take_nthE hlt)
              have hul := usesE_lt (nthE xs k)
              have hor := i64_or_nat m (usesE (nthE xs k)) (by omega) (by omega)
              go_wp2_with fail
              refine (ik _ hwb (by omega)).mono ?_
              rintro _ w2 ⟨_, rfl, hb2, rfl⟩
              have e3 := ext_trans hb hb2
              go_wp2
              go_roundw
              case rel => exact ⟨k + 1, by omega, by go_num, by rw [HT.out, usesL_snoc, HM.out, Nat.or_assoc], e3, hRw.ext hb2⟩
              case measure => simp [intOf]; omega
            · have HTK := Lib.hid (show xs.take k = xs from List.take_of_length_le (by omega))
              go_wp2
              go_ret
              exact .mk hb (int_eq (by rw [HR.out, HUE.out, HM.out, HTK.out]))
end Go.Proofs.YtifkkajgcekafaaDoor
