/- The check of a node by the reference. -/
import Derived.Test.YthogcbffnbhalaaDoorExFew
namespace Go.Proofs.YthogcbffnbhalaaDoor
set_option linter.unusedVariables false
open Go.RowKit

theorem any_take_snoc (op : Int) (xs : List Ex) (k : Nat) (h : k < xs.length) : (xs.take (k + 1)).any (misfit op) = ((xs.take k).any (misfit op) || misfit op (nthE xs k)) := by
  rw [take_nthE h, List.any_append]; simp
theorem any_take_true (op : Int) (xs : List Ex) (k : Nat) (h : k < xs.length) (hm : misfit op (nthE xs k) = true) : xs.any (misfit op) = true :=
  List.any_eq_true.2 ⟨_, nthE_mem h, hm⟩
theorem arity_known {op : Int} (h : ¬ arity op < 0) : 0 ≤ op ∧ op ≤ 15 := by
  unfold arity at h
  by_cases h1 : op < 0 ∨ 15 < op
  · rw [if_pos h1] at h; omega
  · omega
theorem arity_range (op : Int) : -1 ≤ arity op ∧ arity op ≤ 2 := by
  unfold arity; split <;> (try split) <;> (try split) <;> omega

/-- The test of the number of a node. -/
def numErr (op num vars : Int) : Int := if op = 1 ∧ (num < 0 ∨ vars ≤ num) then 10 else if op = 0 ∧ small num = false then 2 else if 1 < op ∧ num ≠ 0 then 3 else 0
theorem nodeErr_eq (op num vars : Int) (xs : List Ex) : nodeErr (.node op num xs) vars =
    if arity op < 0 then 1 else if (xs.length : Int) ≠ arity op then 15 else if numErr op num vars ≠ 0 then numErr op num vars else if xs.any (misfit op) then 9 else 0 := by
  unfold nodeErr numErr Ex.op Ex.num Ex.args
  by_cases h1 : arity op < 0
  · simp [h1]
  · by_cases h2 : (xs.length : Int) ≠ arity op
    · simp [h1, h2]
    · by_cases h3 : op = 1 ∧ (num < 0 ∨ vars ≤ num)
      · simp only [if_neg h1, if_neg h2, if_pos h3]; simp
      · by_cases h4 : op = 0 ∧ small num = false
        · simp only [if_neg h1, if_neg h2, if_neg h3, if_pos h4]; simp
        · by_cases h5 : 1 < op ∧ num ≠ 0
          · simp only [if_neg h1, if_neg h2, if_neg h3, if_neg h4, if_pos h5]; simp
          · simp only [if_neg h1, if_neg h2, if_neg h3, if_neg h4, if_neg h5]; simp

set_option maxRecDepth 100000 in
set_option maxHeartbeats 4000000 in
theorem refNode_calls {S : Nat → Prop} {w : World} {e : Ex} {v : Value} (h : ExprV S w e v) (vars : Int) :
    Calls Tryd.prog 61 #[v, .int .i64 vars] w (Post w fun _ r => r = .int .i64 (nodeErr e vars)) := by
  cases h with
  | mk wo wn ha hl hm hc hx =>
    rename_i op num xs a cap us
    obtain ⟨i0, hi, hz⟩ := info_e
    have hix := idx_three Tryd.underlying22 hi hz ha
    obtain ⟨R, hR⟩ : ∃ R, R = nodeErr (.node op num xs) vars := ⟨_, rfl⟩
    rw [← hR]
    rw [nodeErr_eq] at hR
    obtain ⟨ar, har⟩ : ∃ ar, ar = arity op := ⟨_, rfl⟩
    have HAR := Lib.hid har
    rw [← har] at hR
    go_enter Tryd.func61, Tryd.ntmps61
    go_wp2_with fail
    refine (arity_quiet _ op).mono ?_
    rintro _ _ ⟨rfl, n1, rfl⟩
    rw [← har]
    have e1 := ext_drewN (ext_alloc w (.cells #[.int .i64 op, .int .i64 num, .slice a xs.length cap] 24)) n1
    have r1 := (row_new w [.int .i64 op, .int .i64 num, .slice a xs.length cap] 24).agree (drewN_agree (fun _ => True) _ n1) trivial
    by_cases h1 : ar < 0
    · have d1 : decide (ar < 0) = true := by simpa using h1
      rw [if_pos h1] at hR
      have HRES := Lib.hid hR
      clear hR har
      go_wp2
      go_ret
      exact .mk e1 (int_eq HRES.out.symm)
    · have d1 : decide (ar < 0) = false := by simpa using h1
      rw [if_neg h1] at hR
      by_cases h2 : (xs.length : Int) ≠ ar
      · have d2 : ((xs.length : Int) != ar) = true := by simpa using h2
        rw [if_pos h2] at hR
        have HRES := Lib.hid hR
        clear hR har
        go_wp2
        go_ret
        exact .mk e1 (int_eq HRES.out.symm)
      · have d2 : ((xs.length : Int) != ar) = false := by simpa using h2
        rw [if_neg h2] at hR
        have hk := arity_known (op := op) (by omega)
        have hr2 := arity_range op
        rw [← har] at hr2
        have hlen : (xs.length : Int) = ar := by simpa using h2
        have HLEN := Lib.hid hlen
        have HRES := Lib.hid hR
        clear h2 hlen hR har
        by_cases o1 : op = 1
        · have g1 : (op == 1) = true := beq_iff_eq.2 o1
          have g2 : (op == 0) = false := beq_eq_false_iff_ne.2 (by omega)
          have g3 : (op != 1) = false := by simpa using o1
          by_cases n1' : num < 0
          · have t1 : decide (num < 0) = true := by simpa using n1'
            have HNE := Lib.hid (show numErr op num vars = 10 by unfold numErr; rw [if_pos (by omega)])
            clear o1
            go_wp2
            go_ret
            exact .mk e1 (int_eq (by rw [HRES.out, HNE.out]; rfl))
          · have t1 : decide (num < 0) = false := by simpa using n1'
            by_cases n2' : vars ≤ num
            · have t2 : decide (vars ≤ num) = true := by simpa using n2'
              have HNE := Lib.hid (show numErr op num vars = 10 by unfold numErr; rw [if_pos (by omega)])
              clear o1
              go_wp2
              go_ret
              exact .mk e1 (int_eq (by rw [HRES.out, HNE.out]; rfl))
            · have t2 : decide (vars ≤ num) = false := by simpa using n2'
              have HNE := Lib.hid (show numErr op num vars = 0 by unfold numErr; rw [if_neg (by omega), if_neg (by omega), if_neg (by omega)])
              clear o1
              go_wp2
              go_loopw [6] (fun i wr => ∃ k : Nat, (k : Int) ≤ ar ∧ i = .int .i64 k ∧ Below w.heap.size w wr ∧ Row wr w.heap.size 24 [.int .i64 op, .int .i64 num, .slice a xs.length cap] ∧ (xs.take k).any (misfit op) = false) (fun i _ => 3 - (intOf i).toNat)
              case atStart => exact ⟨0, by omega, rfl, e1, r1, by simp⟩
              case round =>
                obtain ⟨k, hk2, rfl, hb, hR, hany⟩ := hrel
                have cr := hR.cell (j := 2) rfl
                have co := hR.cell (j := 0) rfl
                by_cases hlt : (k : Int) < ar
                · have hkl : k < xs.length := by have := HLEN.out; omega
                  have q := hix k hkl
                  obtain ⟨a', cap', e, c0, c1, c2⟩ := elem_parts ha hc hx hkl hb
                  have cn0 := (row_new wr [.int .i64 (nthE xs k).op, .int .i64 (nthE xs k).num, .slice a' (nthE xs k).args.length cap'] 24).cell (j := 0) rfl
                  have co' := (hR.alloc (.cells (List.toArray [.int .i64 (nthE xs k).op, .int .i64 (nthE xs k).num, .slice a' (nthE xs k).args.length cap']) 24)).cell (j := 0) rfl
                  have hb' := (hb.alloc hb.size (.cells (List.toArray [.int .i64 (nthE xs k).op, .int .i64 (nthE xs k).num, .slice a' (nthE xs k).args.length cap']) 24))
                  have hR' := (hR.alloc (.cells (List.toArray [.int .i64 (nthE xs k).op, .int .i64 (nthE xs k).num, .slice a' (nthE xs k).args.length cap']) 24))
                  have HAN := Lib.hid (any_take_snoc op xs k hkl)
                  have HANY := Lib.hid hany
                  clear hany
                  by_cases m0 : 0 ≤ arity (nthE xs k).op
                  · have f0 : decide (0 ≤ arity (nthE xs k).op) = true := by simpa using m0
                    have hkn := arity_known (op := (nthE xs k).op) (by omega)
                    by_cases m1 : kindOf (nthE xs k).op = argKind op
                    · have f1 : (kindOf (nthE xs k).op != argKind op) = false := by simpa using m1
                      have HM := Lib.hid (show misfit op (nthE xs k) = false by simp [misfit, m1])
                      clear m1
                      go_wp2
                      go_quiet (first | (go_at_call 64; exact quiet_calls (arity_quiet _ _)) | (go_at_call 65; exact quiet_calls (kindOf_quiet _ _ hkn.1 hkn.2)) | (go_at_call 66; exact quiet_calls (argKind_quiet _ _)))
                      go_wp2
                      go_roundw
                      case rel => exact ⟨k + 1, by omega, by go_num, hb'.trans (drewN_below _ _ _), hR'.agree (drewN_agree (fun _ => True) _ _) trivial, by rw [HAN.out, HANY.out, HM.out]; rfl⟩
                      case measure => simp [intOf]; omega
                    · have f1 : (kindOf (nthE xs k).op != argKind op) = true := by simpa using m1
                      have HM := Lib.hid (show misfit op (nthE xs k) = true by simp [misfit, m0, m1])
                      clear m1
                      go_wp2
                      go_quiet (first | (go_at_call 64; exact quiet_calls (arity_quiet _ _)) | (go_at_call 65; exact quiet_calls (kindOf_quiet _ _ hkn.1 hkn.2)) | (go_at_call 66; exact quiet_calls (argKind_quiet _ _)))
                      go_wp2
                      go_ret
                      exact .mk (hb'.trans (drewN_below _ _ _)) (int_eq (by rw [HRES.out, if_neg (by rw [HNE.out]; simp), any_take_true op xs k hkl HM.out, if_pos rfl]))
                  · have f0 : decide (0 ≤ arity (nthE xs k).op) = false := by simpa using m0
                    have HM := Lib.hid (show misfit op (nthE xs k) = false by simp [misfit, m0])
                    go_wp2
                    go_quiet (first | (go_at_call 64; exact quiet_calls (arity_quiet _ _)) | (go_at_call 66; exact quiet_calls (argKind_quiet _ _)))
                    go_wp2
                    go_roundw
                    case rel => exact ⟨k + 1, by omega, by go_num, hb'.trans (drewN_below _ _ _), hR'.agree (drewN_agree (fun _ => True) _ _) trivial, by rw [HAN.out, HANY.out, HM.out]; rfl⟩
                    case measure => simp [intOf]; omega
                · have HT := Lib.hid (show xs.take k = xs from List.take_of_length_le (by have := HLEN.out; omega))
                  have HANY := Lib.hid hany
                  clear hany
                  go_wp2
                  go_ret
                  exact .mk hb (int_eq (by have := HANY.out; rw [HT.out] at this; rw [HRES.out, if_neg (by rw [HNE.out]; simp), this]; rfl))
        · have g1 : (op == 1) = false := beq_eq_false_iff_ne.2 o1
          have g3 : (op != 1) = true := by simpa using o1
          by_cases o0 : op = 0
          · have g2 : (op == 0) = true := beq_iff_eq.2 o0
            have g4 : (op != 0) = false := by simpa using o0
            by_cases n1' : num < -1048576
            · have t1 : decide (num < -1048576) = true := by simpa using n1'
              have HNE := Lib.hid (show numErr op num vars = 2 by unfold numErr; rw [if_neg (by omega), if_pos ⟨o0, by unfold small; simp; omega⟩])
              clear o0
              go_wp2
              go_ret
              exact .mk e1 (int_eq (by rw [HRES.out, HNE.out]; rfl))
            · have t1 : decide (num < -1048576) = false := by simpa using n1'
              by_cases n2' : 1048576 < num
              · have t2 : decide (1048576 < num) = true := by simpa using n2'
                have HNE := Lib.hid (show numErr op num vars = 2 by unfold numErr; rw [if_neg (by omega), if_pos ⟨o0, by unfold small; simp; omega⟩])
                clear o0
                go_wp2
                go_ret
                exact .mk e1 (int_eq (by rw [HRES.out, HNE.out]; rfl))
              · have t2 : decide (1048576 < num) = false := by simpa using n2'
                have HNE := Lib.hid (show numErr op num vars = 0 by unfold numErr; rw [if_neg (by omega), if_neg (fun h => by have := h.2; unfold small at this; simp at this; omega), if_neg (by omega)])
                clear o0
                go_wp2
                go_loopw [6] (fun i wr => ∃ k : Nat, (k : Int) ≤ ar ∧ i = .int .i64 k ∧ Below w.heap.size w wr ∧ Row wr w.heap.size 24 [.int .i64 op, .int .i64 num, .slice a xs.length cap] ∧ (xs.take k).any (misfit op) = false) (fun i _ => 3 - (intOf i).toNat)
                case atStart => exact ⟨0, by omega, rfl, e1, r1, by simp⟩
                case round =>
                  obtain ⟨k, hk2, rfl, hb, hR, hany⟩ := hrel
                  have cr := hR.cell (j := 2) rfl
                  have co := hR.cell (j := 0) rfl
                  by_cases hlt : (k : Int) < ar
                  · have hkl : k < xs.length := by have := HLEN.out; omega
                    have q := hix k hkl
                    obtain ⟨a', cap', e, c0, c1, c2⟩ := elem_parts ha hc hx hkl hb
                    have cn0 := (row_new wr [.int .i64 (nthE xs k).op, .int .i64 (nthE xs k).num, .slice a' (nthE xs k).args.length cap'] 24).cell (j := 0) rfl
                    have co' := (hR.alloc (.cells (List.toArray [.int .i64 (nthE xs k).op, .int .i64 (nthE xs k).num, .slice a' (nthE xs k).args.length cap']) 24)).cell (j := 0) rfl
                    have hb' := (hb.alloc hb.size (.cells (List.toArray [.int .i64 (nthE xs k).op, .int .i64 (nthE xs k).num, .slice a' (nthE xs k).args.length cap']) 24))
                    have hR' := (hR.alloc (.cells (List.toArray [.int .i64 (nthE xs k).op, .int .i64 (nthE xs k).num, .slice a' (nthE xs k).args.length cap']) 24))
                    have HAN := Lib.hid (any_take_snoc op xs k hkl)
                    have HANY := Lib.hid hany
                    clear hany
                    by_cases m0 : 0 ≤ arity (nthE xs k).op
                    · have f0 : decide (0 ≤ arity (nthE xs k).op) = true := by simpa using m0
                      have hkn := arity_known (op := (nthE xs k).op) (by omega)
                      by_cases m1 : kindOf (nthE xs k).op = argKind op
                      · have f1 : (kindOf (nthE xs k).op != argKind op) = false := by simpa using m1
                        have HM := Lib.hid (show misfit op (nthE xs k) = false by simp [misfit, m1])
                        clear m1
                        go_wp2
                        go_quiet (first | (go_at_call 64; exact quiet_calls (arity_quiet _ _)) | (go_at_call 65; exact quiet_calls (kindOf_quiet _ _ hkn.1 hkn.2)) | (go_at_call 66; exact quiet_calls (argKind_quiet _ _)))
                        go_wp2
                        go_roundw
                        case rel => exact ⟨k + 1, by omega, by go_num, hb'.trans (drewN_below _ _ _), hR'.agree (drewN_agree (fun _ => True) _ _) trivial, by rw [HAN.out, HANY.out, HM.out]; rfl⟩
                        case measure => simp [intOf]; omega
                      · have f1 : (kindOf (nthE xs k).op != argKind op) = true := by simpa using m1
                        have HM := Lib.hid (show misfit op (nthE xs k) = true by simp [misfit, m0, m1])
                        clear m1
                        go_wp2
                        go_quiet (first | (go_at_call 64; exact quiet_calls (arity_quiet _ _)) | (go_at_call 65; exact quiet_calls (kindOf_quiet _ _ hkn.1 hkn.2)) | (go_at_call 66; exact quiet_calls (argKind_quiet _ _)))
                        go_wp2
                        go_ret
                        exact .mk (hb'.trans (drewN_below _ _ _)) (int_eq (by rw [HRES.out, if_neg (by rw [HNE.out]; simp), any_take_true op xs k hkl HM.out, if_pos rfl]))
                    · have f0 : decide (0 ≤ arity (nthE xs k).op) = false := by simpa using m0
                      have HM := Lib.hid (show misfit op (nthE xs k) = false by simp [misfit, m0])
                      go_wp2
                      go_quiet (first | (go_at_call 64; exact quiet_calls (arity_quiet _ _)) | (go_at_call 66; exact quiet_calls (argKind_quiet _ _)))
                      go_wp2
                      go_roundw
                      case rel => exact ⟨k + 1, by omega, by go_num, hb'.trans (drewN_below _ _ _), hR'.agree (drewN_agree (fun _ => True) _ _) trivial, by rw [HAN.out, HANY.out, HM.out]; rfl⟩
                      case measure => simp [intOf]; omega
                  · have HT := Lib.hid (show xs.take k = xs from List.take_of_length_le (by have := HLEN.out; omega))
                    have HANY := Lib.hid hany
                    clear hany
                    go_wp2
                    go_ret
                    exact .mk hb (int_eq (by have := HANY.out; rw [HT.out] at this; rw [HRES.out, if_neg (by rw [HNE.out]; simp), this]; rfl))
          · have g2 : (op == 0) = false := beq_eq_false_iff_ne.2 o0
            have g4 : (op != 0) = true := by simpa using o0
            by_cases n1' : num = 0
            · have t1 : (num != 0) = false := by simpa using n1'
              have HNE := Lib.hid (show numErr op num vars = 0 by unfold numErr; rw [if_neg (by omega), if_neg (by omega), if_neg (by omega)])
              clear n1'
              go_wp2
              go_loopw [6] (fun i wr => ∃ k : Nat, (k : Int) ≤ ar ∧ i = .int .i64 k ∧ Below w.heap.size w wr ∧ Row wr w.heap.size 24 [.int .i64 op, .int .i64 num, .slice a xs.length cap] ∧ (xs.take k).any (misfit op) = false) (fun i _ => 3 - (intOf i).toNat)
              case atStart => exact ⟨0, by omega, rfl, e1, r1, by simp⟩
              case round =>
                obtain ⟨k, hk2, rfl, hb, hR, hany⟩ := hrel
                have cr := hR.cell (j := 2) rfl
                have co := hR.cell (j := 0) rfl
                by_cases hlt : (k : Int) < ar
                · have hkl : k < xs.length := by have := HLEN.out; omega
                  have q := hix k hkl
                  obtain ⟨a', cap', e, c0, c1, c2⟩ := elem_parts ha hc hx hkl hb
                  have cn0 := (row_new wr [.int .i64 (nthE xs k).op, .int .i64 (nthE xs k).num, .slice a' (nthE xs k).args.length cap'] 24).cell (j := 0) rfl
                  have co' := (hR.alloc (.cells (List.toArray [.int .i64 (nthE xs k).op, .int .i64 (nthE xs k).num, .slice a' (nthE xs k).args.length cap']) 24)).cell (j := 0) rfl
                  have hb' := (hb.alloc hb.size (.cells (List.toArray [.int .i64 (nthE xs k).op, .int .i64 (nthE xs k).num, .slice a' (nthE xs k).args.length cap']) 24))
                  have hR' := (hR.alloc (.cells (List.toArray [.int .i64 (nthE xs k).op, .int .i64 (nthE xs k).num, .slice a' (nthE xs k).args.length cap']) 24))
                  have HAN := Lib.hid (any_take_snoc op xs k hkl)
                  have HANY := Lib.hid hany
                  clear hany
                  by_cases m0 : 0 ≤ arity (nthE xs k).op
                  · have f0 : decide (0 ≤ arity (nthE xs k).op) = true := by simpa using m0
                    have hkn := arity_known (op := (nthE xs k).op) (by omega)
                    by_cases m1 : kindOf (nthE xs k).op = argKind op
                    · have f1 : (kindOf (nthE xs k).op != argKind op) = false := by simpa using m1
                      have HM := Lib.hid (show misfit op (nthE xs k) = false by simp [misfit, m1])
                      clear m1
                      go_wp2
                      go_quiet (first | (go_at_call 64; exact quiet_calls (arity_quiet _ _)) | (go_at_call 65; exact quiet_calls (kindOf_quiet _ _ hkn.1 hkn.2)) | (go_at_call 66; exact quiet_calls (argKind_quiet _ _)))
                      go_wp2
                      go_roundw
                      case rel => exact ⟨k + 1, by omega, by go_num, hb'.trans (drewN_below _ _ _), hR'.agree (drewN_agree (fun _ => True) _ _) trivial, by rw [HAN.out, HANY.out, HM.out]; rfl⟩
                      case measure => simp [intOf]; omega
                    · have f1 : (kindOf (nthE xs k).op != argKind op) = true := by simpa using m1
                      have HM := Lib.hid (show misfit op (nthE xs k) = true by simp [misfit, m0, m1])
                      clear m1
                      go_wp2
                      go_quiet (first | (go_at_call 64; exact quiet_calls (arity_quiet _ _)) | (go_at_call 65; exact quiet_calls (kindOf_quiet _ _ hkn.1 hkn.2)) | (go_at_call 66; exact quiet_calls (argKind_quiet _ _)))
                      go_wp2
                      go_ret
                      exact .mk (hb'.trans (drewN_below _ _ _)) (int_eq (by rw [HRES.out, if_neg (by rw [HNE.out]; simp), any_take_true op xs k hkl HM.out, if_pos rfl]))
                  · have f0 : decide (0 ≤ arity (nthE xs k).op) = false := by simpa using m0
                    have HM := Lib.hid (show misfit op (nthE xs k) = false by simp [misfit, m0])
                    go_wp2
                    go_quiet (first | (go_at_call 64; exact quiet_calls (arity_quiet _ _)) | (go_at_call 66; exact quiet_calls (argKind_quiet _ _)))
                    go_wp2
                    go_roundw
                    case rel => exact ⟨k + 1, by omega, by go_num, hb'.trans (drewN_below _ _ _), hR'.agree (drewN_agree (fun _ => True) _ _) trivial, by rw [HAN.out, HANY.out, HM.out]; rfl⟩
                    case measure => simp [intOf]; omega
                · have HT := Lib.hid (show xs.take k = xs from List.take_of_length_le (by have := HLEN.out; omega))
                  have HANY := Lib.hid hany
                  clear hany
                  go_wp2
                  go_ret
                  exact .mk hb (int_eq (by have := HANY.out; rw [HT.out] at this; rw [HRES.out, if_neg (by rw [HNE.out]; simp), this]; rfl))
            · have t1 : (num != 0) = true := by simpa using n1'
              have HNE := Lib.hid (show numErr op num vars = 3 by unfold numErr; rw [if_neg (by omega), if_neg (by omega), if_pos (by omega)])
              go_wp2
              go_ret
              exact .mk e1 (int_eq (by rw [HRES.out, HNE.out]; rfl))
end Go.Proofs.YthogcbffnbhalaaDoor

