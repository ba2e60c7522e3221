/- The program's tables, and the check of a node. -/
import Derived.Test.YthogcbffnbhalaaDoorExNode
namespace Go.Proofs.YthogcbffnbhalaaDoor
set_option linter.unusedVariables false
open Go.RowKit

/-- The two tables hold what the program's text lays. -/
structure Tab (w : World) : Prop where
  pos : 2 ≤ w.heap.size
  kind : ∀ op : Int, 0 ≤ op → op ≤ 15 → w.cell? ⟨0, op.toNat * 3, none⟩ = some (.int .i64 (kindOf op))
  args : ∀ op : Int, 0 ≤ op → op ≤ 15 → w.cell? ⟨0, op.toNat * 3 + 1, none⟩ = some (.int .i64 (arity op))
  of : ∀ op : Int, 0 ≤ op → op ≤ 15 → w.cell? ⟨0, op.toNat * 3 + 2, none⟩ = some (.int .i64 (argKind op))
  duals : ∀ j : Nat, j < 6 → w.cell? ⟨1, j, none⟩ = some (.int .i64 (nth [8, 9, 10, 11, 13, 14] j))
theorem Tab.ext {w w' : World} (h : Tab w) (hw : Below w.heap.size w w') : Tab w' where
  pos := Nat.le_trans h.pos hw.size
  kind := fun op h0 h1 => (hw.cell (p := ⟨0, _, none⟩) (by have := h.pos; simp; omega)).trans (h.kind op h0 h1)
  args := fun op h0 h1 => (hw.cell (p := ⟨0, _, none⟩) (by have := h.pos; simp; omega)).trans (h.args op h0 h1)
  of := fun op h0 h1 => (hw.cell (p := ⟨0, _, none⟩) (by have := h.pos; simp; omega)).trans (h.of op h0 h1)
  duals := fun j hj => (hw.cell (p := ⟨1, _, none⟩) (by have := h.pos; simp; omega)).trans (h.duals j hj)

theorem info_row : ∃ i, Tryd.prog.info? 61 = some i ∧ i.size = 3 := by
  have h : (Tryd.prog.info? 61).map (fun i => (i.size)) = some 3 := by kernel_rfl
  cases h0 : Tryd.prog.info? 61 with
  | none => rw [h0] at h; cases h
  | some i => rw [h0] at h; exact ⟨i, rfl, by simpa using h⟩
/-- The row of an operation in the table. -/
theorem idx_rows {op : Int} (h0 : 0 ≤ op) (h1 : op ≤ 15) (W : World) :
    (Instr.indexAt 62 (.pointer (some ⟨0, 0, none⟩)) (.int .i64 op)).run Tryd.prog W = .ok (.pointer (some ⟨0, op.toNat * 3, none⟩)) W := by
  obtain ⟨i, hi, hz⟩ := info_row
  have hA := Tryd.underlying62
  have hE : Tryd.prog.elem 62 = 61 := by simp [Program.elem, hA]
  have hL : Tryd.prog.arrayLen 62 = 16 := by simp [Program.arrayLen, hA]
  rw [run_indexAt_array W _ _ _ _ (by rw [hE, hL]; exact hA), hL, hE, if_pos (by omega)]
  simp [sizeOf, typeInfo, hi, hz, Result.andThen, Addr.add]
  omega

set_option maxRecDepth 100000 in
set_option maxHeartbeats 4000000 in
theorem node_calls {S : Nat → Prop} {w : World} {e : Ex} {v : Value} (hT : Tab w) (h : ExprV S w e v) (vars : Int) :
    Calls Tryd.prog 59 #[v, .int .i64 vars] w (Post w fun _ r => r = .int .i64 (nodeErr e vars)) := by
  cases h with
  | mk wo wn ha hl hm hc hx =>
    rename_i op num xs a cap us
    obtain ⟨i0, hi, hz⟩ := info_e
    have hix := idx_three Tryd.underlying22 hi hz ha
    obtain ⟨R, hR⟩ : ∃ R, R = nodeErr (.node op num xs) vars := ⟨_, rfl⟩
    rw [← hR]
    rw [nodeErr_eq] at hR
    obtain ⟨ar, har⟩ : ∃ ar, ar = arity op := ⟨_, rfl⟩
    have HAR := Lib.hid har
    rw [← har] at hR
    go_enter Tryd.func59, Tryd.ntmps59
    go_wp2_with fail
    refine ((known_quiet _ op).mono fun _ _ h => h.post).mono ?_
    rintro _ w1 ⟨_, rfl, hb1, rfl⟩
    rw [← har]
    have e1 := ext_trans (ext_alloc w (.cells #[.int .i64 op, .int .i64 num, .slice a xs.length cap] 24)) hb1
    have r1 := (row_new w [.int .i64 op, .int .i64 num, .slice a xs.length cap] 24).ext hb1
    by_cases h1 : ar < 0
    · have d1 : decide (0 ≤ ar) = false := by simpa using h1
      rw [if_pos h1] at hR
      have HRES := Lib.hid hR
      clear hR har
      rw [d1]
      go_wp2
      go_ret
      exact .mk e1 (int_eq HRES.out.symm)
    · have d1 : decide (0 ≤ ar) = true := by simp; omega
      rw [if_neg h1] at hR
      rw [d1]
      obtain ⟨hk0, hk1⟩ := arity_known (op := op) (by omega)
      have t1 := (hT.ext e1).args op hk0 hk1
      have qt := idx_rows hk0 hk1
      have hk2 : op < 16 := by omega
      rw [← har] at t1
      have cr := r1.cell (j := 2) rfl
      have co := r1.cell (j := 0) rfl
      by_cases h2 : (xs.length : Int) ≠ ar
      · have d2 : ((xs.length : Int) != ar) = true := by simpa using h2
        rw [if_pos h2] at hR
        have HRES := Lib.hid hR
        clear hR har
        go_wp2
        go_quiet (fail)
        go_wp2
        go_ret
        exact .mk (ext_drewN e1 _) (int_eq HRES.out.symm)
      · have d2 : ((xs.length : Int) != ar) = false := by simpa using h2
        rw [if_neg h2] at hR
        have hr2 := arity_range op
        rw [← har] at hr2
        have hlen : (xs.length : Int) = ar := by simpa using h2
        have hmax : xs.length ≤ 2 := by omega
        have HLEN := Lib.hid hlen
        have HRES := Lib.hid hR
        clear h2 hlen hR har
        go_wp2
        go_quiet (fail)
        obtain ⟨w2, hw2⟩ : ∃ w2, w2 = w1.drewN nq := ⟨_, rfl⟩
        rw [← hw2]
        have e2 : Below w.heap.size w w2 := by rw [hw2]; exact ext_drewN e1 _
        have r2 : Row w2 w.heap.size 24 [.int .i64 op, .int .i64 num, .slice a xs.length cap] := by rw [hw2]; exact r1.agree (drewN_agree (fun _ => True) _ _) trivial
        clear hw2 cr co t1
        have cr2 := r2.cell (j := 2) rfl
        have co2 := r2.cell (j := 0) rfl
        have cm2 := r2.cell (j := 1) rfl
        by_cases o1 : op = 1
        · have g1 : (op == 1) = true := beq_iff_eq.2 o1
          have g2 : (op == 0) = false := beq_eq_false_iff_ne.2 (by omega)
          have g3 : decide (1 < op) = false := by simp; omega
          by_cases n1' : num < 0
          · have t1 : decide (num < 0) = true := by simpa using n1'
            have HNE := Lib.hid (show numErr op num vars = 10 by unfold numErr; rw [if_pos (by omega)])
            clear o1
            go_wp2
            go_ret
            exact .mk e2 (int_eq (by rw [HRES.out, HNE.out]; rfl))
          · have t1 : decide (num < 0) = false := by simpa using n1'
            by_cases n2' : vars ≤ num
            · have t2 : decide (vars ≤ num) = true := by simpa using n2'
              have HNE := Lib.hid (show numErr op num vars = 10 by unfold numErr; rw [if_pos (by omega)])
              clear o1
              go_wp2
              go_ret
              exact .mk e2 (int_eq (by rw [HRES.out, HNE.out]; rfl))
            · have t2 : decide (vars ≤ num) = false := by simpa using n2'
              have HNE := Lib.hid (show numErr op num vars = 0 by unfold numErr; rw [if_neg (by omega), if_neg (by omega), if_neg (by omega)])
              clear o1
              go_wp2
              go_loopw [59] (fun i wr => ∃ k : Nat, k ≤ xs.length ∧ i = .int .i64 k ∧ Below w.heap.size w wr ∧ Row wr w.heap.size 24 [.int .i64 op, .int .i64 num, .slice a xs.length cap] ∧ (xs.take k).any (misfit op) = false) (fun i _ => 3 - (intOf i).toNat)
              case atStart => exact ⟨0, by omega, rfl, e2, r2, by simp⟩
              case round =>
                obtain ⟨k, hk3, rfl, hb, hR, hany⟩ := hrel
                have co := hR.cell (j := 0) rfl
                by_cases hkl : k < xs.length
                · have q := hix k hkl
                  obtain ⟨a', cap', e, c0, c1, c2⟩ := elem_parts ha hc hx hkl hb
                  have cn0 := (row_new wr [.int .i64 (nthE xs k).op, .int .i64 (nthE xs k).num, .slice a' (nthE xs k).args.length cap'] 24).cell (j := 0) rfl
                  have co' := (hR.alloc (.cells (List.toArray [.int .i64 (nthE xs k).op, .int .i64 (nthE xs k).num, .slice a' (nthE xs k).args.length cap']) 24)).cell (j := 0) rfl
                  have hb' := (hb.alloc hb.size (.cells (List.toArray [.int .i64 (nthE xs k).op, .int .i64 (nthE xs k).num, .slice a' (nthE xs k).args.length cap']) 24))
                  have hR' := (hR.alloc (.cells (List.toArray [.int .i64 (nthE xs k).op, .int .i64 (nthE xs k).num, .slice a' (nthE xs k).args.length cap']) 24))
                  have HAN := Lib.hid (any_take_snoc op xs k hkl)
                  have HANY := Lib.hid hany
                  have b1 := (hT.ext hb).of op hk0 hk1
                  have b2 := (hT.ext hb').of op hk0 hk1
                  clear hany
                  by_cases m0 : 0 ≤ arity (nthE xs k).op
                  · have f0 : decide (0 ≤ arity (nthE xs k).op) = true := by simpa using m0
                    have hkn := arity_known (op := (nthE xs k).op) (by omega)
                    have qa := idx_rows hkn.1 hkn.2
                    have b3 := (hT.ext hb).kind _ hkn.1 hkn.2
                    have b4 := (hT.ext hb').kind _ hkn.1 hkn.2
                    have HKN := Lib.hid (fun n : Nat => known_quiet ((wr.alloc (.cells (List.toArray [.int .i64 (nthE xs k).op, .int .i64 (nthE xs k).num, .slice a' (nthE xs k).args.length cap']) 24)).drewN n) (nthE xs k).op)
                    rw [f0] at HKN
                    by_cases m1 : kindOf (nthE xs k).op = argKind op
                    · have f1 : (kindOf (nthE xs k).op != argKind op) = false := by simpa using m1
                      have HM := Lib.hid (show misfit op (nthE xs k) = false by simp [misfit, m1])
                      clear m1
                      go_wp2
                      go_quiet (first | (go_at_call 63; exact quiet_calls (HKN.out _)))
                      go_wp2
                      go_roundw
                      case rel => exact ⟨k + 1, by omega, by go_num, hb'.trans (drewN_below _ _ _), hR'.agree (drewN_agree (fun _ => True) _ _) trivial, by rw [HAN.out, HANY.out, HM.out]; rfl⟩
                      case measure => simp [intOf]; omega
                    · have f1 : (kindOf (nthE xs k).op != argKind op) = true := by simpa using m1
                      have HM := Lib.hid (show misfit op (nthE xs k) = true by simp [misfit, m0, m1])
                      clear m1
                      go_wp2
                      go_quiet (first | (go_at_call 63; exact quiet_calls (HKN.out _)))
                      go_wp2
                      go_ret
                      exact .mk (hb'.trans (drewN_below _ _ _)) (int_eq (by rw [HRES.out, if_neg (by rw [HNE.out]; simp), any_take_true op xs k hkl HM.out, if_pos rfl]))
                  · have f0 : decide (0 ≤ arity (nthE xs k).op) = false := by simpa using m0
                    have HM := Lib.hid (show misfit op (nthE xs k) = false by simp [misfit, m0])
                    have HKN := Lib.hid (fun n : Nat => known_quiet ((wr.alloc (.cells (List.toArray [.int .i64 (nthE xs k).op, .int .i64 (nthE xs k).num, .slice a' (nthE xs k).args.length cap']) 24)).drewN n) (nthE xs k).op)
                    rw [f0] at HKN
                    go_wp2
                    go_quiet (first | (go_at_call 63; exact quiet_calls (HKN.out _)))
                    go_wp2
                    go_roundw
                    case rel => exact ⟨k + 1, by omega, by go_num, hb'.trans (drewN_below _ _ _), hR'.agree (drewN_agree (fun _ => True) _ _) trivial, by rw [HAN.out, HANY.out, HM.out]; rfl⟩
                    case measure => simp [intOf]; omega
                · have HTK := Lib.hid (show xs.take k = xs from List.take_of_length_le (by omega))
                  have HANY := Lib.hid hany
                  clear hany
                  go_wp2
                  go_ret
                  exact .mk hb (int_eq (by have := HANY.out; rw [HTK.out] at this; rw [HRES.out, if_neg (by rw [HNE.out]; simp), this]; rfl))
        · have g1 : (op == 1) = false := beq_eq_false_iff_ne.2 o1
          by_cases o0 : op = 0
          · have g2 : (op == 0) = true := beq_iff_eq.2 o0
            have g3 : decide (1 < op) = false := by simp; omega
            cases hsm : small num with
            | false =>
              have HSM := Lib.hid hsm
              have HNE := Lib.hid (show numErr op num vars = 2 by unfold numErr; rw [if_neg (by omega), if_pos ⟨o0, hsm⟩])
              clear o0 hsm
              go_wp2_with fail
              refine ((small_quiet _ num).mono fun _ _ h => h.post).mono ?_
              rintro _ w3 ⟨_, rfl, hb3, rfl⟩
              have e3 := ext_trans e2 hb3
              have r3 := r2.ext hb3
              have cr3 := r3.cell (j := 2) rfl
              have co3 := r3.cell (j := 0) rfl
              have cm3 := r3.cell (j := 1) rfl
              rw [HSM.out]
              go_wp2
              go_ret
              exact .mk e3 (int_eq (by rw [HRES.out, HNE.out]; rfl))
            | true =>
              have HSM := Lib.hid hsm
              have HNE := Lib.hid (show numErr op num vars = 0 by unfold numErr; rw [if_neg (by omega), if_neg (fun h => by rw [hsm] at h; cases h.2), if_neg (by omega)])
              clear o0 hsm
              go_wp2_with fail
              refine ((small_quiet _ num).mono fun _ _ h => h.post).mono ?_
              rintro _ w3 ⟨_, rfl, hb3, rfl⟩
              have e3 := ext_trans e2 hb3
              have r3 := r2.ext hb3
              have cr3 := r3.cell (j := 2) rfl
              have co3 := r3.cell (j := 0) rfl
              have cm3 := r3.cell (j := 1) rfl
              rw [HSM.out]
              go_wp2
              go_loopw [59] (fun i wr => ∃ k : Nat, k ≤ xs.length ∧ i = .int .i64 k ∧ Below w.heap.size w wr ∧ Row wr w.heap.size 24 [.int .i64 op, .int .i64 num, .slice a xs.length cap] ∧ (xs.take k).any (misfit op) = false) (fun i _ => 3 - (intOf i).toNat)
              case atStart => exact ⟨0, by omega, rfl, e3, r3, by simp⟩
              case round =>
                obtain ⟨k, hk3, rfl, hb, hR, hany⟩ := hrel
                have co := hR.cell (j := 0) rfl
                by_cases hkl : k < xs.length
                · have q := hix k hkl
                  obtain ⟨a', cap', e, c0, c1, c2⟩ := elem_parts ha hc hx hkl hb
                  have cn0 := (row_new wr [.int .i64 (nthE xs k).op, .int .i64 (nthE xs k).num, .slice a' (nthE xs k).args.length cap'] 24).cell (j := 0) rfl
                  have co' := (hR.alloc (.cells (List.toArray [.int .i64 (nthE xs k).op, .int .i64 (nthE xs k).num, .slice a' (nthE xs k).args.length cap']) 24)).cell (j := 0) rfl
                  have hb' := (hb.alloc hb.size (.cells (List.toArray [.int .i64 (nthE xs k).op, .int .i64 (nthE xs k).num, .slice a' (nthE xs k).args.length cap']) 24))
                  have hR' := (hR.alloc (.cells (List.toArray [.int .i64 (nthE xs k).op, .int .i64 (nthE xs k).num, .slice a' (nthE xs k).args.length cap']) 24))
                  have HAN := Lib.hid (any_take_snoc op xs k hkl)
                  have HANY := Lib.hid hany
                  have b1 := (hT.ext hb).of op hk0 hk1
                  have b2 := (hT.ext hb').of op hk0 hk1
                  clear hany
                  by_cases m0 : 0 ≤ arity (nthE xs k).op
                  · have f0 : decide (0 ≤ arity (nthE xs k).op) = true := by simpa using m0
                    have hkn := arity_known (op := (nthE xs k).op) (by omega)
                    have qa := idx_rows hkn.1 hkn.2
                    have b3 := (hT.ext hb).kind _ hkn.1 hkn.2
                    have b4 := (hT.ext hb').kind _ hkn.1 hkn.2
                    have HKN := Lib.hid (fun n : Nat => known_quiet ((wr.alloc (.cells (List.toArray [.int .i64 (nthE xs k).op, .int .i64 (nthE xs k).num, .slice a' (nthE xs k).args.length cap']) 24)).drewN n) (nthE xs k).op)
                    rw [f0] at HKN
                    by_cases m1 : kindOf (nthE xs k).op = argKind op
                    · have f1 : (kindOf (nthE xs k).op != argKind op) = false := by simpa using m1
                      have HM := Lib.hid (show misfit op (nthE xs k) = false by simp [misfit, m1])
                      clear m1
                      go_wp2
                      go_quiet (first | (go_at_call 63; exact quiet_calls (HKN.out _)))
                      go_wp2
                      go_roundw
                      case rel => exact ⟨k + 1, by omega, by go_num, hb'.trans (drewN_below _ _ _), hR'.agree (drewN_agree (fun _ => True) _ _) trivial, by rw [HAN.out, HANY.out, HM.out]; rfl⟩
                      case measure => simp [intOf]; omega
                    · have f1 : (kindOf (nthE xs k).op != argKind op) = true := by simpa using m1
                      have HM := Lib.hid (show misfit op (nthE xs k) = true by simp [misfit, m0, m1])
                      clear m1
                      go_wp2
                      go_quiet (first | (go_at_call 63; exact quiet_calls (HKN.out _)))
                      go_wp2
                      go_ret
                      exact .mk (hb'.trans (drewN_below _ _ _)) (int_eq (by rw [HRES.out, if_neg (by rw [HNE.out]; simp), any_take_true op xs k hkl HM.out, if_pos rfl]))
                  · have f0 : decide (0 ≤ arity (nthE xs k).op) = false := by simpa using m0
                    have HM := Lib.hid (show misfit op (nthE xs k) = false by simp [misfit, m0])
                    have HKN := Lib.hid (fun n : Nat => known_quiet ((wr.alloc (.cells (List.toArray [.int .i64 (nthE xs k).op, .int .i64 (nthE xs k).num, .slice a' (nthE xs k).args.length cap']) 24)).drewN n) (nthE xs k).op)
                    rw [f0] at HKN
                    go_wp2
                    go_quiet (first | (go_at_call 63; exact quiet_calls (HKN.out _)))
                    go_wp2
                    go_roundw
                    case rel => exact ⟨k + 1, by omega, by go_num, hb'.trans (drewN_below _ _ _), hR'.agree (drewN_agree (fun _ => True) _ _) trivial, by rw [HAN.out, HANY.out, HM.out]; rfl⟩
                    case measure => simp [intOf]; omega
                · have HTK := Lib.hid (show xs.take k = xs from List.take_of_length_le (by omega))
                  have HANY := Lib.hid hany
                  clear hany
                  go_wp2
                  go_ret
                  exact .mk hb (int_eq (by have := HANY.out; rw [HTK.out] at this; rw [HRES.out, if_neg (by rw [HNE.out]; simp), this]; rfl))
          · have g2 : (op == 0) = false := beq_eq_false_iff_ne.2 o0
            have g3 : decide (1 < op) = true := by simp; omega
            by_cases n1' : num = 0
            · have t1 : (num != 0) = false := by simpa using n1'
              have HNE := Lib.hid (show numErr op num vars = 0 by unfold numErr; rw [if_neg (by omega), if_neg (by omega), if_neg (by omega)])
              clear n1'
              go_wp2
              go_loopw [59] (fun i wr => ∃ k : Nat, k ≤ xs.length ∧ i = .int .i64 k ∧ Below w.heap.size w wr ∧ Row wr w.heap.size 24 [.int .i64 op, .int .i64 num, .slice a xs.length cap] ∧ (xs.take k).any (misfit op) = false) (fun i _ => 3 - (intOf i).toNat)
              case atStart => exact ⟨0, by omega, rfl, e2, r2, by simp⟩
              case round =>
                obtain ⟨k, hk3, rfl, hb, hR, hany⟩ := hrel
                have co := hR.cell (j := 0) rfl
                by_cases hkl : k < xs.length
                · have q := hix k hkl
                  obtain ⟨a', cap', e, c0, c1, c2⟩ := elem_parts ha hc hx hkl hb
                  have cn0 := (row_new wr [.int .i64 (nthE xs k).op, .int .i64 (nthE xs k).num, .slice a' (nthE xs k).args.length cap'] 24).cell (j := 0) rfl
                  have co' := (hR.alloc (.cells (List.toArray [.int .i64 (nthE xs k).op, .int .i64 (nthE xs k).num, .slice a' (nthE xs k).args.length cap']) 24)).cell (j := 0) rfl
                  have hb' := (hb.alloc hb.size (.cells (List.toArray [.int .i64 (nthE xs k).op, .int .i64 (nthE xs k).num, .slice a' (nthE xs k).args.length cap']) 24))
                  have hR' := (hR.alloc (.cells (List.toArray [.int .i64 (nthE xs k).op, .int .i64 (nthE xs k).num, .slice a' (nthE xs k).args.length cap']) 24))
                  have HAN := Lib.hid (any_take_snoc op xs k hkl)
                  have HANY := Lib.hid hany
                  have b1 := (hT.ext hb).of op hk0 hk1
                  have b2 := (hT.ext hb').of op hk0 hk1
                  clear hany
                  by_cases m0 : 0 ≤ arity (nthE xs k).op
                  · have f0 : decide (0 ≤ arity (nthE xs k).op) = true := by simpa using m0
                    have hkn := arity_known (op := (nthE xs k).op) (by omega)
                    have qa := idx_rows hkn.1 hkn.2
                    have b3 := (hT.ext hb).kind _ hkn.1 hkn.2
                    have b4 := (hT.ext hb').kind _ hkn.1 hkn.2
                    have HKN := Lib.hid (fun n : Nat => known_quiet ((wr.alloc (.cells (List.toArray [.int .i64 (nthE xs k).op, .int .i64 (nthE xs k).num, .slice a' (nthE xs k).args.length cap']) 24)).drewN n) (nthE xs k).op)
                    rw [f0] at HKN
                    by_cases m1 : kindOf (nthE xs k).op = argKind op
                    · have f1 : (kindOf (nthE xs k).op != argKind op) = false := by simpa using m1
                      have HM := Lib.hid (show misfit op (nthE xs k) = false by simp [misfit, m1])
                      clear m1
                      go_wp2
                      go_quiet (first | (go_at_call 63; exact quiet_calls (HKN.out _)))
                      go_wp2
                      go_roundw
                      case rel => exact ⟨k + 1, by omega, by go_num, hb'.trans (drewN_below _ _ _), hR'.agree (drewN_agree (fun _ => True) _ _) trivial, by rw [HAN.out, HANY.out, HM.out]; rfl⟩
                      case measure => simp [intOf]; omega
                    · have f1 : (kindOf (nthE xs k).op != argKind op) = true := by simpa using m1
                      have HM := Lib.hid (show misfit op (nthE xs k) = true by simp [misfit, m0, m1])
                      clear m1
                      go_wp2
                      go_quiet (first | (go_at_call 63; exact quiet_calls (HKN.out _)))
                      go_wp2
                      go_ret
                      exact .mk (hb'.trans (drewN_below _ _ _)) (int_eq (by rw [HRES.out, if_neg (by rw [HNE.out]; simp), any_take_true op xs k hkl HM.out, if_pos rfl]))
                  · have f0 : decide (0 ≤ arity (nthE xs k).op) = false := by simpa using m0
                    have HM := Lib.hid (show misfit op (nthE xs k) = false by simp [misfit, m0])
                    have HKN := Lib.hid (fun n : Nat => known_quiet ((wr.alloc (.cells (List.toArray [.int .i64 (nthE xs k).op, .int .i64 (nthE xs k).num, .slice a' (nthE xs k).args.length cap']) 24)).drewN n) (nthE xs k).op)
                    rw [f0] at HKN
                    go_wp2
                    go_quiet (first | (go_at_call 63; exact quiet_calls (HKN.out _)))
                    go_wp2
                    go_roundw
                    case rel => exact ⟨k + 1, by omega, by go_num, hb'.trans (drewN_below _ _ _), hR'.agree (drewN_agree (fun _ => True) _ _) trivial, by rw [HAN.out, HANY.out, HM.out]; rfl⟩
                    case measure => simp [intOf]; omega
                · have HTK := Lib.hid (show xs.take k = xs from List.take_of_length_le (by omega))
                  have HANY := Lib.hid hany
                  clear hany
                  go_wp2
                  go_ret
                  exact .mk hb (int_eq (by have := HANY.out; rw [HTK.out] at this; rw [HRES.out, if_neg (by rw [HNE.out]; simp), this]; rfl))
            · have t1 : (num != 0) = true := by simpa using n1'
              have HNE := Lib.hid (show numErr op num vars = 3 by unfold numErr; rw [if_neg (by omega), if_neg (by omega), if_pos (by omega)])
              go_wp2
              go_ret
              exact .mk e2 (int_eq (by rw [HRES.out, HNE.out]; rfl))
end Go.Proofs.YthogcbffnbhalaaDoor

