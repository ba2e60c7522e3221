/- The check of all nodes by the reference. -/
import Derived.Test.YthogcbffnbhalaaDoorExCheck
import Derived.Deep.RegionHeld3
namespace Go.Proofs.YthogcbffnbhalaaDoor
set_option linter.unusedVariables false
open Go.RowKit

theorem cell_ext {w w' : World} {p : Addr} {u : Value} (h : w.cell? p = some u) (hb : Below w.heap.size w w') : w'.cell? p = some u := (hb.cell (World.block_lt_of_cell? w _ h)).trans h

theorem inner_calls {S : Nat → Prop} {w : World} {e : Ex} {v : Value} (h : ExprV S w e v) (vars : Int) (h0 : 0 ≤ vars) (h1 : vars ≤ 100000) :
    Calls Tryd.prog 62 #[v, .int .i64 vars] w (Post w fun _ r => r = .int .i64 (innerV e.op vars)) := by
  obtain ⟨a, cap, rfl, _⟩ := h.parts
  go_enter Tryd.func62, Tryd.ntmps62
  go_wp2_with fail
  refine ((quantifier_quiet _ e.op).mono fun _ _ h => h.post).mono ?_
  rintro _ w2 ⟨_, rfl, hb2, rfl⟩
  have e2 := ext_trans (ext_alloc w _) hb2
  cases hq : quant e.op with
  | true =>
    have HU := Lib.hid (show innerV e.op vars = vars + 1 by unfold innerV; rw [if_pos hq])
    clear hq
    go_wp2
    go_ret
    exact .mk e2 (int_eq HU.out.symm)
  | false =>
    have HU := Lib.hid (show innerV e.op vars = vars by unfold innerV; rw [if_neg (by simp [hq])])
    clear hq
    go_wp2
    go_ret
    exact .mk e2 (int_eq HU.out.symm)

set_option maxRecDepth 100000 in
set_option maxHeartbeats 1000000 in
theorem refNodes_calls {S : Nat → Prop} {w : World} {e : Ex} {v : Value} (h : ExprV S w e v) : ∀ W (vars : Int), Below w.heap.size w W → 0 ≤ vars → vars + depthE e ≤ 100000 → sizeE e ≤ 100000 →
    Calls Tryd.prog 50 #[v, .int .i64 vars] W (Post W fun _ r => r = .int .i64 (nodesErr e vars)) := by
  induction h with
  | mk wo wn ha hl hm hc hx ih =>
    rename_i op num xs a cap us
    intro W vars hW hv0 hv1 hS
    have h0 : ExprV S w (.node op num xs) (.agg #[.int .i64 op, .int .i64 num, .slice a xs.length cap]) := .mk wo wn ha hl hm hc hx
    obtain ⟨i0, hi, hz⟩ := info_e
    have hix := idx_three Tryd.underlying22 hi hz ha
    have hlen := length_le_size xs
    simp only [sizeE] at hS
    simp only [depthE] at hv1
    obtain ⟨R, hR⟩ : ∃ R, R = nodesErr (.node op num xs) vars := ⟨_, rfl⟩
    rw [← hR]
    rw [nodesErr_eq] at hR
    obtain ⟨f, hf⟩ : ∃ f, f = nodeErr (.node op num xs) vars := ⟨_, rfl⟩
    rw [← hf] at hR
    obtain ⟨u, hu⟩ : ∃ u, u = innerV op vars := ⟨_, rfl⟩
    have hu1 : u ≤ vars + 1 ∧ 0 ≤ u := by rw [hu]; unfold innerV; split <;> omega
    have HU := Lib.hid hu
    rw [← hu] at hR
    clear hu
    go_enter Tryd.func50, Tryd.ntmps50
    go_wp2_with fail
    have ex1 := ext_alloc W (.cells #[.int .i64 op, .int .i64 num, .slice a xs.length cap] 24)
    have r1 := row_new W [.int .i64 op, .int .i64 num, .slice a xs.length cap] 24
    refine (refNode_calls (h0.ext (ext_trans hW ex1)) vars).mono ?_
    rintro _ w1 ⟨_, rfl, hb1, rfl⟩
    have e1 := ext_trans ex1 hb1
    have r2 := r1.ext hb1
    rw [← hf]
    clear hf
    by_cases hf0 : f = 0
    · have d1 : (f != 0) = false := by simpa using hf0
      rw [if_neg (by omega)] at hR
      have HR := Lib.hid hR
      clear hf0 hR
      go_wp2
      go_loopw [6] (fun i wr => ∃ k : Nat, k ≤ xs.length ∧ i = .int .i64 k ∧ Below W.heap.size W wr ∧ Row wr W.heap.size 24 [.int .i64 op, .int .i64 num, .slice a xs.length cap] ∧ nodesErrL xs u = nodesErrL (xs.drop k) u) (fun i _ => xs.length - (intOf i).toNat)
      case atStart => exact ⟨0, by omega, rfl, e1, r2, rfl⟩
      case round =>
        obtain ⟨k, hk, rfl, hb, hRw, hrest⟩ := hrel
        have HREST := Lib.hid hrest
        clear hrest
        have cr := hRw.cell (j := 2) rfl
        by_cases hlt : k < xs.length
        · have q := hix k hlt
          have hwb := ext_trans hW hb
          obtain ⟨a', cap', e, c0, c1, c2⟩ := elem_parts ha hc hx hlt hwb
          have ik := ih k hlt
          rw [e] at ik
          have hd := depthL_nth hlt
          have hsz := sizeL_nth hlt
          have co := hRw.cell (j := 0) rfl
          have cm := hRw.cell (j := 1) rfl
          have HIN := Lib.hid (fun W' (hW' : Below w.heap.size w W') => (show Calls _ _ _ _ (Post W' fun _ r => r = .int .i64 u) from by rw [HU.out]; exact inner_calls (h0.ext hW') vars hv0 (by omega)))
          have KEEP : ∀ W', Below wr.heap.size wr W' → (fun w' : World => w'.cell? ⟨W.heap.size, 2, none⟩ = some (.slice a xs.length cap) ∧ w'.cell? ⟨W.heap.size, 0, none⟩ = some (.int .i64 op) ∧ w'.cell? ⟨W.heap.size, 1, none⟩ = some (.int .i64 num) ∧
              w'.cell? (adr a (k * 3)) = some (.int .i64 (nthE xs k).op) ∧ w'.cell? ⟨(adr a (k * 3)).block, (adr a (k * 3)).off + 1, none⟩ = some (.int .i64 (nthE xs k).num) ∧ w'.cell? ⟨(adr a (k * 3)).block, (adr a (k * 3)).off + 2, none⟩ = some (.slice a' (nthE xs k).args.length cap') ∧ Below wr.heap.size wr w') W' := fun W' hW' => ⟨cell_ext cr hW', cell_ext co hW', cell_ext cm hW', cell_ext c0 hW', cell_ext c1 hW', cell_ext c2 hW', hW'⟩
          have KEEP := Lib.hid KEEP
          have hwr := Below.refl wr.heap.size wr
          go_wp2
          go_region_held3 (fun w' : World => w'.cell? ⟨W.heap.size, 2, none⟩ = some (.slice a xs.length cap) ∧ w'.cell? ⟨W.heap.size, 0, none⟩ = some (.int .i64 op) ∧ w'.cell? ⟨W.heap.size, 1, none⟩ = some (.int .i64 num) ∧
              w'.cell? (adr a (k * 3)) = some (.int .i64 (nthE xs k).op) ∧ w'.cell? ⟨(adr a (k * 3)).block, (adr a (k * 3)).off + 1, none⟩ = some (.int .i64 (nthE xs k).num) ∧ w'.cell? ⟨(adr a (k * 3)).block, (adr a (k * 3)).off + 2, none⟩ = some (.slice a' (nthE xs k).args.length cap') ∧ Below wr.heap.size wr w')
            (first | (apply KEEP.out; first | assumption | (apply Below.drew; assumption)))
            (first | (go_at_call 62; refine (HIN.out _ (ext_trans hwb (by first | assumption | (apply Below.drew; assumption)))).mono ?_; rintro _ w3 ⟨_, rfl, hb3, rfl⟩; have hbb : Below wr.heap.size wr w3 := ext_trans (by first | assumption | (apply Below.drew; assumption)) hb3) | (go_at_call 50; refine (ik _ _ (ext_trans hwb (by first | assumption | (apply Below.drew; assumption))) (by omega) (by omega) (by omega)).mono ?_; rintro _ w3 ⟨_, rfl, hb3, rfl⟩; have hbb : Below wr.heap.size wr w3 := ext_trans (by first | assumption | (apply Below.drew; assumption)) hb3))
          have e3 := ext_trans hb hbb
          have hR3 := hRw.ext hbb
          have HD := Lib.hid (nodesErrL_drop hlt u)
          obtain ⟨g, hg⟩ : ∃ g, g = nodesErr (nthE xs k) u := ⟨_, rfl⟩
          rw [← hg]
          have HG := Lib.hid hg
          clear hg
          by_cases hg0 : g = 0
          · have d2 : (g != 0) = false := by simpa using hg0
            have HG0 := Lib.hid hg0
            clear hg0
            go_wp2
            go_roundw
            case rel => exact ⟨k + 1, by omega, by go_num, e3, hR3, by rw [HREST.out, HD.out, ← HG.out, if_neg (by rw [HG0.out]; simp)]⟩
            case measure => simp [intOf]; omega
          · have d2 : (g != 0) = true := by simpa using hg0
            go_wp2
            go_ret
            exact .mk e3 (int_eq (by rw [HR.out, HREST.out, HD.out, ← HG.out, if_pos hg0]))
        · have HDR := Lib.hid (show xs.drop k = [] from List.drop_eq_nil_of_le (by omega))
          go_wp2
          go_ret
          exact .mk hb (int_eq (by rw [HR.out, HREST.out, HDR.out]; rfl))
    · have d1 : (f != 0) = true := by simpa using hf0
      rw [if_pos (by omega)] at hR
      have HR := Lib.hid hR
      clear hR
      go_wp2
      go_ret
      exact .mk e1 (int_eq HR.out.symm)
end Go.Proofs.YthogcbffnbhalaaDoor

