/- Whether two expressions are the same, by the reference. -/
import Derived.Test.YthogcbffnbhalaaDoorExUses
namespace Go.Proofs.YthogcbffnbhalaaDoor
set_option linter.unusedVariables false
open Go.RowKit

theorem sameEs_drop {xs ys : List Ex} {k : Nat} (h1 : k < xs.length) (h2 : k < ys.length) : sameEs (xs.drop k) (ys.drop k) = (sameE (nthE xs k) (nthE ys k) && sameEs (xs.drop (k + 1)) (ys.drop (k + 1))) := by
  rw [drop_nthE h1, drop_nthE h2, sameEs]
theorem sameEs_len {xs ys : List Ex} (h : xs.length ≠ ys.length) : sameEs xs ys = false := by
  cases hs : sameEs xs ys with
  | false => rfl
  | true => exact absurd (congrArg List.length ((sameEs_eq xs ys).1 hs)) h

set_option maxRecDepth 100000 in
set_option maxHeartbeats 2000000 in
theorem refSame_calls {S : Nat → Prop} {w : World} {e1 : Ex} {v1 : Value} (h : ExprV S w e1 v1) : ∀ {S' : Nat → Prop} {e2 : Ex} {v2 : Value} (h2 : ExprV S' w e2 v2) W, Below w.heap.size w W →
    Calls Tryd.prog 22 #[v1, v2] W (Post W fun _ r => r = .bool (sameE e1 e2)) := by
  induction h with
  | mk wo wn ha hl hm hc hx ih =>
    rename_i op num xs a cap us
    intro S' e2 v2 h2 W hW
    cases h2 with
    | mk wo2 wn2 ha2 hl2 hm2 hc2 hx2 =>
      rename_i op2 num2 ys a2 cap2 us2
      unfold maxLen at hm hm2
      obtain ⟨i0, hi, hz⟩ := info_e
      have hix := idx_three Tryd.underlying22 hi hz ha
      have hix2 := idx_three Tryd.underlying22 hi hz ha2
      have HS := Lib.hid (show sameE (.node op num xs) (.node op2 num2 ys) = (decide (op = op2) && decide (num = num2) && sameEs xs ys) by rw [sameE])
      obtain ⟨R, hR⟩ : ∃ R, R = sameE (.node op num xs) (.node op2 num2 ys) := ⟨_, rfl⟩
      rw [← hR]
      have HR := Lib.hid hR
      clear hR
      go_enter Tryd.func22, Tryd.ntmps22
      have ex1 := ext_alloc' (ext_alloc W (.cells #[.int .i64 op, .int .i64 num, .slice a xs.length cap] 24)) (.cells #[.int .i64 op2, .int .i64 num2, .slice a2 ys.length cap2] 24)
      by_cases o1 : op = op2
      · have d1 : (op != op2) = false := by simpa using o1
        have H1 := Lib.hid o1
        clear o1
        by_cases o2 : num = num2
        · have d2 : (num != num2) = false := by simpa using o2
          have H2 := Lib.hid o2
          clear o2
          by_cases o3 : xs.length = ys.length
          · have d3 : ((xs.length : Int) != (ys.length : Int)) = false := by simp; omega
            have H3 := Lib.hid o3
            clear o3
            go_wp2
            go_loopw [5] (fun i wr => ∃ k : Nat, k ≤ xs.length ∧ i = .int .i64 k ∧ Below W.heap.size W wr ∧ Row wr W.heap.size 24 [.int .i64 op, .int .i64 num, .slice a xs.length cap] ∧
              Row wr (W.heap.size + 1) 24 [.int .i64 op2, .int .i64 num2, .slice a2 ys.length cap2] ∧ sameEs xs ys = sameEs (xs.drop k) (ys.drop k)) (fun i _ => xs.length - (intOf i).toNat)
            case atStart => exact ⟨0, by omega, rfl, ex1, (row_new W _ _).alloc _, by have := row_new (W.alloc (.cells #[.int .i64 op, .int .i64 num, .slice a xs.length cap] 24)) [.int .i64 op2, .int .i64 num2, .slice a2 ys.length cap2] 24; simpa using this, rfl⟩
            case round =>
              obtain ⟨k, hk, rfl, hb, hRa, hRb, hrest⟩ := hrel
              have HREST := Lib.hid hrest
              clear hrest
              have cr := hRa.cell (j := 2) rfl
              have cs := hRb.cell (j := 2) rfl
              by_cases hlt : k < xs.length
              · have hlt2 : k < ys.length := by have := H3.out; omega
                have q := hix k hlt
                have q2 := hix2 k hlt2
                have hwb := ext_trans hW hb
                obtain ⟨a', cap', e, c0, c1, c2⟩ := elem_parts ha hc hx hlt hwb
                obtain ⟨a'', cap'', e', b0, b1, b2⟩ := elem_parts ha2 hc2 hx2 hlt2 hwb
                have ik := @ih k hlt S' (nthE ys k) (us2 k) (hx2 k hlt2)
                rw [e, e'] at ik
                have KEEP : ∀ W', Below wr.heap.size wr W' → (fun w' : World => w'.cell? ⟨W.heap.size, 2, none⟩ = some (.slice a xs.length cap) ∧ w'.cell? ⟨W.heap.size + 1, 2, none⟩ = some (.slice a2 ys.length cap2) ∧
              w'.cell? (adr a (k * 3)) = some (.int .i64 (nthE xs k).op) ∧ w'.cell? ⟨(adr a (k * 3)).block, (adr a (k * 3)).off + 1, none⟩ = some (.int .i64 (nthE xs k).num) ∧ w'.cell? ⟨(adr a (k * 3)).block, (adr a (k * 3)).off + 2, none⟩ = some (.slice a' (nthE xs k).args.length cap') ∧
              w'.cell? (adr a2 (k * 3)) = some (.int .i64 (nthE ys k).op) ∧ w'.cell? ⟨(adr a2 (k * 3)).block, (adr a2 (k * 3)).off + 1, none⟩ = some (.int .i64 (nthE ys k).num) ∧ w'.cell? ⟨(adr a2 (k * 3)).block, (adr a2 (k * 3)).off + 2, none⟩ = some (.slice a'' (nthE ys k).args.length cap'') ∧ Below wr.heap.size wr w') W' := fun W' hW' => ⟨cell_ext cr hW', cell_ext cs hW', cell_ext c0 hW', cell_ext c1 hW', cell_ext c2 hW', cell_ext b0 hW', cell_ext b1 hW', cell_ext b2 hW', hW'⟩
                have KEEP := Lib.hid KEEP
                have hwr := Below.refl wr.heap.size wr
                have HD := Lib.hid (sameEs_drop hlt hlt2)
                go_wp2
                go_region_held3 (fun w' : World => w'.cell? ⟨W.heap.size, 2, none⟩ = some (.slice a xs.length cap) ∧ w'.cell? ⟨W.heap.size + 1, 2, none⟩ = some (.slice a2 ys.length cap2) ∧
              w'.cell? (adr a (k * 3)) = some (.int .i64 (nthE xs k).op) ∧ w'.cell? ⟨(adr a (k * 3)).block, (adr a (k * 3)).off + 1, none⟩ = some (.int .i64 (nthE xs k).num) ∧ w'.cell? ⟨(adr a (k * 3)).block, (adr a (k * 3)).off + 2, none⟩ = some (.slice a' (nthE xs k).args.length cap') ∧
              w'.cell? (adr a2 (k * 3)) = some (.int .i64 (nthE ys k).op) ∧ w'.cell? ⟨(adr a2 (k * 3)).block, (adr a2 (k * 3)).off + 1, none⟩ = some (.int .i64 (nthE ys k).num) ∧ w'.cell? ⟨(adr a2 (k * 3)).block, (adr a2 (k * 3)).off + 2, none⟩ = some (.slice a'' (nthE ys k).args.length cap'') ∧ Below wr.heap.size wr w')
                  (first | (apply KEEP.out; first | assumption | (apply Below.drew; assumption)))
                  (first | (go_at_call 22; refine (ik _ (ext_trans hwb (by first | assumption | (apply Below.drew; assumption)))).mono ?_; rintro _ w3 ⟨_, rfl, hb3, rfl⟩; have hbb : Below wr.heap.size wr w3 := ext_trans (by first | assumption | (apply Below.drew; assumption)) hb3))
                have e3 := ext_trans hb hbb
                have hRa3 := hRa.ext hbb
                have hRb3 := hRb.ext hbb
                cases hg : sameE (nthE xs k) (nthE ys k) with
                | true =>
                  have HG := Lib.hid hg
                  clear hg
                  go_wp2
                  go_roundw
                  case rel => exact ⟨k + 1, by omega, by go_num, e3, hRa3, hRb3, by rw [HREST.out, HD.out, HG.out, Bool.true_and]⟩
                  case measure => simp [intOf]; omega
                | false =>
                  have HG := Lib.hid hg
                  clear hg
                  go_wp2
                  go_ret
                  exact .mk e3 (bool_eq (by rw [HR.out, HS.out, HREST.out, HD.out, HG.out]; simp))
              · have HDX := Lib.hid (show xs.drop k = [] from List.drop_eq_nil_of_le (by omega))
                have HDY := Lib.hid (show ys.drop k = [] from List.drop_eq_nil_of_le (by have := H3.out; omega))
                go_wp2
                go_ret
                exact .mk hb (bool_eq (by rw [HR.out, HS.out, HREST.out, HDX.out, HDY.out, decide_eq_true H1.out, decide_eq_true H2.out]; rfl))
          · have d3 : ((xs.length : Int) != (ys.length : Int)) = true := by simp; omega
            have H3 := Lib.hid o3
            clear o3
            go_wp2
            go_ret
            exact .mk ex1 (bool_eq (by rw [HR.out, HS.out, sameEs_len H3.out]; simp))
        · have d2 : (num != num2) = true := by simpa using o2
          have H2 := Lib.hid o2
          clear o2
          go_wp2
          go_ret
          exact .mk ex1 (bool_eq (by rw [HR.out, HS.out, decide_eq_false H2.out]; simp))
      · have d1 : (op != op2) = true := by simpa using o1
        have H1 := Lib.hid o1
        clear o1
        go_wp2
        go_ret
        exact .mk ex1 (bool_eq (by rw [HR.out, HS.out, decide_eq_false H1.out]; simp))
end Go.Proofs.YthogcbffnbhalaaDoor

