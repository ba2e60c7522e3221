/- The check of all nodes, and of an expression. -/
import Derived.Test.YthogcbffnbhalaaDoorExTab
namespace Go.Proofs.YthogcbffnbhalaaDoor
set_option linter.unusedVariables false
open Go.RowKit

theorem nodesErr_eq (op num vars : Int) (xs : List Ex) : nodesErr (.node op num xs) vars = if nodeErr (.node op num xs) vars ≠ 0 then nodeErr (.node op num xs) vars else nodesErrL xs (innerV op vars) := by
  rw [nodesErr]
theorem nodesErrL_drop {xs : List Ex} {k : Nat} (h : k < xs.length) (v : Int) : nodesErrL (xs.drop k) v = if nodesErr (nthE xs k) v ≠ 0 then nodesErr (nthE xs k) v else nodesErrL (xs.drop (k + 1)) v := by
  rw [drop_nthE h, nodesErrL]
theorem depthL_nth {xs : List Ex} {k : Nat} (h : k < xs.length) : depthE (nthE xs k) ≤ depthL xs := by
  induction xs generalizing k with
  | nil => simp at h
  | cons x l ih =>
    cases k with
    | zero => simp only [depthL]; show depthE x ≤ _; omega
    | succ k =>
      have := ih (k := k) (by simpa using h)
      simp only [depthL]
      show depthE (nthE l k) ≤ _
      omega

set_option maxRecDepth 100000 in
set_option maxHeartbeats 1000000 in
theorem nodes_calls {S : Nat → Prop} {w : World} {e : Ex} {v : Value} (hT : Tab w) (h : ExprV S w e v) : ∀ W (vars : Int), Below w.heap.size w W → 0 ≤ vars → vars + depthE e ≤ 100000 → sizeE e ≤ 100000 →
    Calls Tryd.prog 40 #[v, .int .i64 vars] W (Post W fun _ r => r = .int .i64 (nodesErr e vars)) := by
  induction h with
  | mk wo wn ha hl hm hc hx ih =>
    rename_i op num xs a cap us
    intro W vars hW hv0 hv1 hS
    have h0 : ExprV S w (.node op num xs) (.agg #[.int .i64 op, .int .i64 num, .slice a xs.length cap]) := .mk wo wn ha hl hm hc hx
    obtain ⟨i0, hi, hz⟩ := info_e
    have hix := idx_three Tryd.underlying22 hi hz ha
    have hlen := length_le_size xs
    simp only [sizeE] at hS
    simp only [depthE] at hv1
    obtain ⟨R, hR⟩ : ∃ R, R = nodesErr (.node op num xs) vars := ⟨_, rfl⟩
    rw [← hR]
    rw [nodesErr_eq] at hR
    obtain ⟨f, hf⟩ : ∃ f, f = nodeErr (.node op num xs) vars := ⟨_, rfl⟩
    rw [← hf] at hR
    go_enter Tryd.func40, Tryd.ntmps40
    go_wp2_with fail
    have ex1 := ext_alloc W (.cells #[.int .i64 op, .int .i64 num, .slice a xs.length cap] 24)
    have r1 := row_new W [.int .i64 op, .int .i64 num, .slice a xs.length cap] 24
    refine (node_calls (hT.ext (ext_trans hW ex1)) (h0.ext (ext_trans hW ex1)) vars).mono ?_
    rintro _ w1 ⟨_, rfl, hb1, rfl⟩
    have e1 := ext_trans ex1 hb1
    have r2 := r1.ext hb1
    have cr := r2.cell (j := 2) rfl
    have co := r2.cell (j := 0) rfl
    rw [← hf]
    clear hf
    by_cases hf0 : f = 0
    · have d1 : (f != 0) = false := by simpa using hf0
      rw [if_neg (by omega)] at hR
      have HR := Lib.hid hR
      clear hf0 hR
      go_wp2_with fail
      refine ((quantifies_quiet _ op).mono fun _ _ h => h.post).mono ?_
      rintro _ w2 ⟨_, rfl, hb2, rfl⟩
      have e2 := ext_trans e1 hb2
      have r3 := r2.ext hb2
      have cr2 := r3.cell (j := 2) rfl
      have key : ∀ u : Int, u = innerV op vars → u + depthL xs ≤ 100000 ∧ 0 ≤ u := by
        intro u hu
        unfold innerV at hu
        split at hu <;> omega
      have HKEY := Lib.hid key
      clear key
      cases hq : quant op with
      | true =>
        have HU := Lib.hid (show vars + 1 = innerV op vars by unfold innerV; rw [if_pos hq])
        obtain ⟨hu1, hu0⟩ := HKEY.out _ HU.out
        clear hq
        go_wp2
        go_loopw [23] (fun i wr => ∃ k : Nat, k ≤ xs.length ∧ i = .int .i64 k ∧ Below W.heap.size W wr ∧ nodesErrL xs (innerV op vars) = nodesErrL (xs.drop k) (innerV op vars)) (fun i _ => xs.length - (intOf i).toNat)
        case atStart => exact ⟨0, by omega, rfl, e2, rfl⟩
        case round =>
          obtain ⟨k, hk, rfl, hb, hrest⟩ := hrel
          have HREST := Lib.hid hrest
          clear hrest
          by_cases hlt : k < xs.length
          · have q := hix k hlt
            have hwb := ext_trans hW hb
            obtain ⟨a', cap', e, c0, c1, c2⟩ := elem_parts ha hc hx hlt hwb
            have ik := ih k hlt
            rw [e] at ik
            have hd := depthL_nth hlt
            have hsz := sizeL_nth hlt
            go_wp2_with fail
            refine (ik _ (vars + 1) (ext_alloc' hwb _) (by omega) (by omega) (by omega)).mono ?_
            rintro _ w3 ⟨_, rfl, hb3, rfl⟩
            have e3 := (ext_alloc' hb (.cells #[.int .i64 (nthE xs k).op, .int .i64 (nthE xs k).num, .slice a' (nthE xs k).args.length cap'] 24)).trans (hb3.mono (by simp; have := hb.size; omega))
            have HD := Lib.hid (nodesErrL_drop hlt (innerV op vars))
            obtain ⟨g, hg⟩ : ∃ g, g = nodesErr (nthE xs k) (vars + 1) := ⟨_, rfl⟩
            rw [← hg]
            rw [HU.out] at hg
            have HG := Lib.hid hg
            clear hg
            by_cases hg0 : g = 0
            · have d2 : (g != 0) = false := by simpa using hg0
              have HG0 := Lib.hid hg0
              clear hg0
              go_wp2
              go_roundw
              case rel => exact ⟨k + 1, by omega, by go_num, e3, by rw [HREST.out, HD.out, ← HG.out, if_neg (by rw [HG0.out]; simp)]⟩
              case measure => simp [intOf]; omega
            · have d2 : (g != 0) = true := by simpa using hg0
              go_wp2
              go_ret
              exact .mk e3 (int_eq (by rw [HR.out, HREST.out, HD.out, ← HG.out, if_pos hg0]))
          · have HDR := Lib.hid (show xs.drop k = [] from List.drop_eq_nil_of_le (by omega))
            go_wp2
            go_ret
            exact .mk hb (int_eq (by rw [HR.out, HREST.out, HDR.out]; rfl))
      | false =>
        have HU := Lib.hid (show vars = innerV op vars by unfold innerV; rw [if_neg (by simp [hq])])
        obtain ⟨hu1, hu0⟩ := HKEY.out _ HU.out
        clear hq
        go_wp2
        go_loopw [23] (fun i wr => ∃ k : Nat, k ≤ xs.length ∧ i = .int .i64 k ∧ Below W.heap.size W wr ∧ nodesErrL xs (innerV op vars) = nodesErrL (xs.drop k) (innerV op vars)) (fun i _ => xs.length - (intOf i).toNat)
        case atStart => exact ⟨0, by omega, rfl, e2, rfl⟩
        case round =>
          obtain ⟨k, hk, rfl, hb, hrest⟩ := hrel
          have HREST := Lib.hid hrest
          clear hrest
          by_cases hlt : k < xs.length
          · have q := hix k hlt
            have hwb := ext_trans hW hb
            obtain ⟨a', cap', e, c0, c1, c2⟩ := elem_parts ha hc hx hlt hwb
            have ik := ih k hlt
            rw [e] at ik
            have hd := depthL_nth hlt
            have hsz := sizeL_nth hlt
            go_wp2_with fail
            refine (ik _ vars (ext_alloc' hwb _) (by omega) (by omega) (by omega)).mono ?_
            rintro _ w3 ⟨_, rfl, hb3, rfl⟩
            have e3 := (ext_alloc' hb (.cells #[.int .i64 (nthE xs k).op, .int .i64 (nthE xs k).num, .slice a' (nthE xs k).args.length cap'] 24)).trans (hb3.mono (by simp; have := hb.size; omega))
            have HD := Lib.hid (nodesErrL_drop hlt (innerV op vars))
            obtain ⟨g, hg⟩ : ∃ g, g = nodesErr (nthE xs k) vars := ⟨_, rfl⟩
            rw [← hg]
            have HG := Lib.hid (show g = nodesErr (nthE xs k) (innerV op vars) by rw [← HU.out]; exact hg)
            clear hg
            by_cases hg0 : g = 0
            · have d2 : (g != 0) = false := by simpa using hg0
              have HG0 := Lib.hid hg0
              clear hg0
              go_wp2
              go_roundw
              case rel => exact ⟨k + 1, by omega, by go_num, e3, by rw [HREST.out, HD.out, ← HG.out, if_neg (by rw [HG0.out]; simp)]⟩
              case measure => simp [intOf]; omega
            · have d2 : (g != 0) = true := by simpa using hg0
              go_wp2
              go_ret
              exact .mk e3 (int_eq (by rw [HR.out, HREST.out, HD.out, ← HG.out, if_pos hg0]))
          · have HDR := Lib.hid (show xs.drop k = [] from List.drop_eq_nil_of_le (by omega))
            go_wp2
            go_ret
            exact .mk hb (int_eq (by rw [HR.out, HREST.out, HDR.out]; rfl))
    · have d1 : (f != 0) = true := by simpa using hf0
      rw [if_pos (by omega)] at hR
      have HR := Lib.hid hR
      clear hR
      go_wp2
      go_ret
      exact .mk e1 (int_eq HR.out.symm)
end Go.Proofs.YthogcbffnbhalaaDoor

