/- Whether two expressions are the same, by the program. -/
import Derived.Test.YthogcbffnbhalaaDoorExSame
namespace Go.Proofs.YthogcbffnbhalaaDoor
set_option linter.unusedVariables false
open Go.RowKit

set_option maxRecDepth 100000 in
set_option maxHeartbeats 2000000 in
/-- slices.EqualFunc at Same, where Same is known of the elements. -/
theorem equalFunc_calls {S S' : Nat → Prop} {w : World} {xs ys : List Ex} {a a2 : Option Addr} {cap cap2 : Nat} {us us2 : Nat → Value} (ha : Ad S w a xs.length cap) (hm : xs.length ≤ 9223372036854775807)
    (hc : ∀ j, j < xs.length → Cells3 w a j (us j)) (hx : ∀ j, j < xs.length → ExprV S w (nthE xs j) (us j))
    (ha2 : Ad S' w a2 ys.length cap2) (hc2 : ∀ j, j < ys.length → Cells3 w a2 j (us2 j)) (hx2 : ∀ j, j < ys.length → ExprV S' w (nthE ys j) (us2 j))
    (ih : ∀ j, j < xs.length → j < ys.length → ∀ W, Below w.heap.size w W → Calls Tryd.prog 23 #[us j, us2 j] W (Post W fun _ r => r = .bool (sameE (nthE xs j) (nthE ys j)))) (W : World) (hW : Below w.heap.size w W) :
    Calls Tryd.prog 38 #[.slice a xs.length cap, .slice a2 ys.length cap2, .func (.func 23) #[] #[]] W (Post W fun _ r => r = .bool (sameEs xs ys)) := by
  obtain ⟨i0, hi, hz⟩ := info_e
  have hix := idx_three Tryd.underlying22 hi hz ha
  have hix2 := idx_three Tryd.underlying22 hi hz ha2
  obtain ⟨R, hR⟩ : ∃ R, R = sameEs xs ys := ⟨_, rfl⟩
  rw [← hR]
  have HR := Lib.hid hR
  clear hR
  go_enter Tryd.func38, Tryd.ntmps38
  by_cases o3 : xs.length = ys.length
  · have d3 : ((xs.length : Int) != (ys.length : Int)) = false := by simp; omega
    have H3 := Lib.hid o3
    clear o3
    go_wp2
    go_loopw [17] (fun i wr => ∃ k : Nat, k ≤ xs.length ∧ i = .int .i64 k ∧ Below W.heap.size W wr ∧ sameEs xs ys = sameEs (xs.drop k) (ys.drop k)) (fun i _ => xs.length - (intOf i).toNat)
    case atStart => exact ⟨0, by omega, rfl, .refl _ _, rfl⟩
    case round =>
      obtain ⟨k, hk, rfl, hb, hrest⟩ := hrel
      have HREST := Lib.hid hrest
      clear hrest
      by_cases hlt : k < xs.length
      · have hlt2 : k < ys.length := by have := H3.out; omega
        have q := hix k hlt
        have hwb := ext_trans hW hb
        obtain ⟨a', cap', e, c0, c1, c2⟩ := elem_parts ha hc hx hlt hwb
        have q2 := hix2 k hlt2
        have hwb1 := ext_alloc' hwb (.cells #[.int .i64 (nthE xs k).op, .int .i64 (nthE xs k).num, .slice a' (nthE xs k).args.length cap'] 24)
        obtain ⟨a'', cap'', e', b0, b1, b2⟩ := elem_parts ha2 hc2 hx2 hlt2 hwb
        have wb := ext_alloc wr (.cells #[.int .i64 (nthE xs k).op, .int .i64 (nthE xs k).num, .slice a' (nthE xs k).args.length cap'] 24)
        have b0' := cell_ext b0 wb
        have b1' := cell_ext b1 wb
        have b2' := cell_ext b2 wb
        have ik := ih k hlt hlt2
        rw [e, e'] at ik
        have HD := Lib.hid (sameEs_drop hlt hlt2)
        go_wp2_with fail
        refine (ik _ (ext_alloc' (ext_alloc' hwb _) _)).mono ?_
        rintro _ w3 ⟨_, rfl, hb3, rfl⟩
        have e3 := ext_trans (ext_alloc' (ext_alloc' hb (.cells #[.int .i64 (nthE xs k).op, .int .i64 (nthE xs k).num, .slice a' (nthE xs k).args.length cap'] 24)) (.cells #[.int .i64 (nthE ys k).op, .int .i64 (nthE ys k).num, .slice a'' (nthE ys k).args.length cap''] 24)) hb3
        cases hg : sameE (nthE xs k) (nthE ys k) with
        | true =>
          have HG := Lib.hid hg
          clear hg
          go_wp2
          go_roundw
          case rel => exact ⟨k + 1, by omega, by go_num, e3, by rw [HREST.out, HD.out, HG.out, Bool.true_and]⟩
          case measure => simp [intOf]; omega
        | false =>
          have HG := Lib.hid hg
          clear hg
          go_wp2
          go_ret
          exact .mk e3 (bool_eq (by rw [HR.out, HREST.out, HD.out, HG.out]; simp))
      · have HDX := Lib.hid (show xs.drop k = [] from List.drop_eq_nil_of_le (by omega))
        have HDY := Lib.hid (show ys.drop k = [] from List.drop_eq_nil_of_le (by have := H3.out; omega))
        go_wp2
        go_ret
        exact .mk hb (bool_eq (by rw [HR.out, HREST.out, HDX.out, HDY.out]; rfl))
  · have d3 : ((xs.length : Int) != (ys.length : Int)) = true := by simp; omega
    have H3 := Lib.hid o3
    clear o3
    go_wp2
    go_ret
    exact .mk (.refl _ _) (bool_eq (by rw [HR.out, sameEs_len H3.out]))

set_option maxRecDepth 100000 in
set_option maxHeartbeats 2000000 in
theorem same_calls {S : Nat → Prop} {w : World} {e1 : Ex} {v1 : Value} (h : ExprV S w e1 v1) : ∀ {S' : Nat → Prop} {e2 : Ex} {v2 : Value} (h2 : ExprV S' w e2 v2) W, Below w.heap.size w W →
    Calls Tryd.prog 23 #[v1, v2] W (Post W fun _ r => r = .bool (sameE e1 e2)) := by
  induction h with
  | mk wo wn ha hl hm hc hx ih =>
    rename_i op num xs a cap us
    intro S' e2 v2 h2 W hW
    cases h2 with
    | mk wo2 wn2 ha2 hl2 hm2 hc2 hx2 =>
      rename_i op2 num2 ys a2 cap2 us2
      unfold maxLen at hm hm2
      have hlen : xs.length ≤ 9223372036854775807 := by omega
      have HS := Lib.hid (show sameE (.node op num xs) (.node op2 num2 ys) = (decide (op = op2) && decide (num = num2) && sameEs xs ys) by rw [sameE])
      obtain ⟨R, hR⟩ : ∃ R, R = sameE (.node op num xs) (.node op2 num2 ys) := ⟨_, rfl⟩
      rw [← hR]
      have HR := Lib.hid hR
      clear hR
      go_enter Tryd.func23, Tryd.ntmps23
      have ex1 := ext_alloc' (ext_alloc W (.cells #[.int .i64 op, .int .i64 num, .slice a xs.length cap] 24)) (.cells #[.int .i64 op2, .int .i64 num2, .slice a2 ys.length cap2] 24)
      by_cases o1 : op = op2
      · have d1 : (op == op2) = true := beq_iff_eq.2 o1
        have H1 := Lib.hid o1
        clear o1
        by_cases o2 : num = num2
        · have d2 : (num == num2) = true := beq_iff_eq.2 o2
          have H2 := Lib.hid o2
          clear o2
          go_wp2_with fail
          refine (equalFunc_calls ha hlen hc hx ha2 hc2 hx2 (fun j hj hj2 => ih j hj (hx2 j hj2)) _ (ext_trans hW ex1)).mono ?_
          rintro _ w3 ⟨_, rfl, hb3, rfl⟩
          go_wp2
          go_ret
          exact .mk (ext_trans ex1 hb3) (bool_eq (by rw [HR.out, HS.out, decide_eq_true H1.out, decide_eq_true H2.out]; simp))
        · have d2 : (num == num2) = false := beq_eq_false_iff_ne.2 o2
          have H2 := Lib.hid o2
          clear o2
          go_wp2
          go_ret
          exact .mk ex1 (bool_eq (by rw [HR.out, HS.out, decide_eq_false H2.out]; simp))
      · have d1 : (op == op2) = false := beq_eq_false_iff_ne.2 o1
        have H1 := Lib.hid o1
        clear o1
        go_wp2
        go_ret
        exact .mk ex1 (bool_eq (by rw [HR.out, HS.out, decide_eq_false H1.out]; simp))
end Go.Proofs.YthogcbffnbhalaaDoor

