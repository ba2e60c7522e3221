/- The words of the statements of top03. Printed by play05.py. -/
import Derived.Test.YtijmjliijjkcbaaMxLaw2
import Derived.Test.YtijmjliijjkcbaaReg
namespace Go.Proofs.Ytijmjliijjkcbaa
set_option linter.unusedVariables false
open Go.RowKit
attribute [local go_sem ↓] Go.wp_at_zero Go.wp_at_succ

def e3R : List (List Int) := [[0, 1], [1, 2], [0, 2]]
def e3M : Mx := ⟨3, e3R⟩
theorem e3M_check : checkM e3M = 0 := checkM_ok (by decide) (by decide) (by decide) (by decide)
theorem e3_echTo : echTo e3R 3 = (insM (insM (fun _ => none) ([0, 1], [0])) ([1, 2], [1]), [[0, 1, 2]]) := by
  have h1 : echTo e3R 1 = (insM (fun _ => none) ([0, 1], [0]), []) := by
    simp [echTo, echStep, echX, e3R, nthL, redP, fuelP]
  have h2 : echTo e3R 2 = (insM (insM (fun _ => none) ([0, 1], [0])) ([1, 2], [1]), []) := by
    rw [echTo, h1]
    simp [echStep, echX, e3R, nthL, redP, fuelP, nth, insM, lead]
  rw [echTo, h2]
  simp [echStep, echX, e3R, nthL, redP, fuelP, nth, insM, lead, addL, xorL, memB]
theorem e3_lines : linesE e3M = [([0, 2], [0, 1]), ([1, 2], [1])] := by
  unfold linesE
  rw [show e3M.rows = e3R from rfl, show e3R.length = 3 from rfl, e3_echTo]
  simp [e3M, outTo, List.range_succ, insM, lead, addL, xorL, memB]
theorem e3_deps : depsE e3M = [[0, 1, 2]] := by
  unfold depsE
  rw [show e3M.rows = e3R from rfl, show e3R.length = 3 from rfl, e3_echTo]
theorem e3_ech : echS e3M = (⟨3, [[0, 2], [1, 2]]⟩, 0) := by
  unfold echS; rw [if_neg (by rw [e3M_check]; decide)]; unfold rowsE; rw [e3_lines]; rfl
theorem e3_sol : solS e3M [0] = (([], [0, 1, 2]), (false, 0)) := by
  unfold solS solD solX
  rw [if_neg (by rw [e3M_check]; decide), if_neg (by rw [vecE_ok (by decide) (by decide)]; decide), e3_deps, e3_lines]
  decide

set_option maxRecDepth 100000 in
set_option maxHeartbeats 4000000 in
theorem playAwake03_calls (w : World) : Calls Try.prog 28 #[] w (Post w fun _ r => r = .bool true) := by
  have l1 := lit_intsS (S := TT) w w.heap.size rfl trivial [0, 1] 3 (by decide) (by decide)
  have l2 := lit_intsS (S := TT) (w.alloc (.cells #[.int .i64 0, .int .i64 1] 3)) (w.heap.size + 1) (by simp) trivial [1, 2] 3 (by decide) (by decide)
  have l3 := lit_intsS (S := TT) ((w.alloc (.cells #[.int .i64 0, .int .i64 1] 3)).alloc (.cells #[.int .i64 1, .int .i64 2] 3)) (w.heap.size + 1 + 1) (by simp) trivial [0, 2] 3 (by decide) (by decide)
  have L := lit_listsS (S := TT) (((w.alloc (.cells #[.int .i64 0, .int .i64 1] 3)).alloc (.cells #[.int .i64 1, .int .i64 2] 3)).alloc (.cells #[.int .i64 0, .int .i64 2] 3)) (w.heap.size + 1 + 1 + 1) (by simp)
    [.slice (some ⟨w.heap.size, 0, none⟩) 2 2, .slice (some ⟨w.heap.size + 1, 0, none⟩) 2 2, .slice (some ⟨w.heap.size + 1 + 1, 0, none⟩) 2 2] e3R 38 trivial
    ⟨((l1.ext (ext_alloc _ _)).ext (ext_alloc _ _)), (l2.ext (ext_alloc _ _)), l3, trivial⟩ (by decide)
  have hb1 := ext_alloc' (ext_alloc' (ext_alloc' (ext_alloc w (.cells #[.int .i64 0, .int .i64 1] 3)) (.cells #[.int .i64 1, .int .i64 2] 3)) (.cells #[.int .i64 0, .int .i64 2] 3)) (.cells #[.slice (some ⟨w.heap.size, 0, none⟩) 2 2, .slice (some ⟨w.heap.size + 1, 0, none⟩) 2 2, .slice (some ⟨w.heap.size + 1 + 1, 0, none⟩) 2 2] 38)
  obtain ⟨w1, hw1⟩ : ∃ w1, w1 = (((w.alloc (.cells #[.int .i64 0, .int .i64 1] 3)).alloc (.cells #[.int .i64 1, .int .i64 2] 3)).alloc (.cells #[.int .i64 0, .int .i64 2] 3)).alloc (.cells #[.slice (some ⟨w.heap.size, 0, none⟩) 2 2, .slice (some ⟨w.heap.size + 1, 0, none⟩) 2 2, .slice (some ⟨w.heap.size + 1 + 1, 0, none⟩) 2 2] 38) := ⟨_, rfl⟩
  have hz1 : w1.heap.size = w.heap.size + 1 + 1 + 1 + 1 := by rw [hw1]; simp
  have hm : MatV TT w1 (.agg #[.int .i64 3, .slice (some ⟨w.heap.size + 1 + 1 + 1, 0, none⟩) 3 3]) e3M := by rw [hw1]; exact ⟨_, rfl, L⟩
  have HB : Below w.heap.size w w1 := by rw [hw1]; exact hb1
  have HW := Lib.hid hw1
  have HZ := Lib.hid hz1
  clear l1 l2 l3 L hb1 hw1
  go_enter Try.func28, Try.ntmps28
  go_upto_region 2 with fail
  obtain ⟨w2, hw2⟩ : ∃ w2, w2 = w1.alloc (.cells #[.int .i64 3, .slice (some ⟨w.heap.size + 1 + 1 + 1, 0, none⟩) 3 3] 24) := ⟨_, rfl⟩
  have R0 := row_new w1 [.int .i64 3, .slice (some ⟨w.heap.size + 1 + 1 + 1, 0, none⟩) 3 3] 24
  rw [hz1, ← hw2] at R0
  have hb2 : Below w1.heap.size w1 w2 := by rw [hw2]; exact ext_alloc _ _
  rw [← HW.out, ← hw2]
  replace hm := hm.ext hb2
  replace HB := ext_trans HB hb2
  clear hw2 hb2 hz1
  obtain ⟨R0a, R0b⟩ := R0.two
  have KK := Lib.hid (rank_gen hm e3_ech rfl)
  go_wp2_with fail
  refine KK.out.mono ?_
  rintro _ w3 ⟨_, rfl, hb3, rfl⟩
  clear KK
  have hy3 := hb3
  replace hm := hm.ext hy3
  replace R0 := R0.ext hy3
  replace HB := ext_trans HB hy3
  clear R0a R0b hy3 hb3
  have ex4 := ext_alloc w3 (.cells #[.int .i64 0] 3)
  have hmx := hm.ext ex4
  obtain ⟨R0a, R0b⟩ := R0.two
  obtain ⟨R0y1a, R0y1b⟩ := (R0.ext (ext_alloc w3 (.cells #[.int .i64 0] 3))).two
  have KK := Lib.hid (solve_gen hmx (lit_intsS (S := TT) w3 w3.heap.size rfl trivial [0] 3 (by decide) (by decide)) e3_sol)
  go_wp2_with fail
  refine KK.out.mono ?_
  rintro _ w4 ⟨_, rfl, hb4, xa, xc, ya, yc, rfl, h1, h2⟩
  clear KK
  have hy4 := ext_trans ex4 hb4
  replace hm := hm.ext hy4
  replace R0 := R0.ext hy4
  replace HB := ext_trans HB hy4
  clear ex4 hmx R0a R0b R0y1a R0y1b hy4 hb4
  have ex5 := ext_alloc w4 (.cells #[.int .i64 0, .int .i64 1, .int .i64 2] 3)
  have hmx := hm.ext ex5
  have h1x := h1.ext ex5
  have h2x := h2.ext ex5
  obtain ⟨R0a, R0b⟩ := R0.two
  obtain ⟨R0y1a, R0y1b⟩ := (R0.ext (ext_alloc w4 (.cells #[.int .i64 0, .int .i64 1, .int .i64 2] 3))).two
  have KK := Lib.hid (equal_lit h2x (lit_intsS (S := TT) w4 w4.heap.size rfl trivial [0, 1, 2] 3 (by decide) (by decide)) rfl)
  go_wp2_with fail
  refine KK.out.mono ?_
  rintro _ w5 ⟨_, rfl, hb5, rfl⟩
  clear KK
  have hy5 := ext_trans ex5 hb5
  replace hm := hm.ext hy5
  replace h1 := h1.ext hy5
  replace h2 := h2.ext hy5
  replace R0 := R0.ext hy5
  replace HB := ext_trans HB hy5
  clear ex5 hmx h1x h2x R0a R0b R0y1a R0y1b hy5 hb5
  go_wp2
  go_ret
  exact .mk HB rfl
set_option maxRecDepth 100000 in
set_option maxHeartbeats 2000000 in
theorem play_calls {S : Nat → Prop} {w : World} {b : Nat} {ms : List Mx} (h : MatsV S w b ms) (hn : ms.length ≤ 100) :
    Calls Try.prog 29 #[.slice (some ⟨b, 0, none⟩) ms.length ms.length] w (Post w fun _ r => r = .bool (ms.all fun m => fewM m && decide (checkM m = 0))) := by
  obtain ⟨hbl, hm⟩ := h
  have HQ := Lib.hid (@idx_mats ms.length b)
  have HM := Lib.hid hm
  clear hm
  obtain ⟨E, hE⟩ : ∃ E, E = ms.all fun m => fewM m && decide (checkM m = 0) := ⟨_, rfl⟩
  rw [← hE]
  have HE := Lib.hid hE
  clear hE
  go_enter Try.func29, Try.ntmps29
  go_wp2
  go_loopw [7] (fun i wr => ∃ k : Nat, k ≤ ms.length ∧ i = .int .i64 k ∧ Below w.heap.size w wr ∧ Hid (∀ j, j < k → (fewM (nthM ms j) && decide (checkM (nthM ms j) = 0)) = true)) (fun i _ => ms.length - (intOf i).toNat)
  case atStart => exact ⟨0, Nat.zero_le _, rfl, .refl _ _, Lib.hid (fun j hj => by omega)⟩
  case round =>
    obtain ⟨k, hk, rfl, hb, hF⟩ := hrel
    by_cases hlt : k < ms.length
    · have q := HQ.out k hlt
      obtain ⟨rv, c0, c1, hl⟩ := HM.out k hlt
      have c0' := (hb.cell (p := ⟨b, k * 2, none⟩) hbl).trans c0
      have c1' := (hb.cell (p := ⟨b, k * 2 + 1, none⟩) hbl).trans c1
      clear c0 c1
      obtain ⟨m, hm⟩ : ∃ m, m = nthM ms k := ⟨_, rfl⟩
      rw [← hm] at c0' hl
      have HK := Lib.hid hm
      clear hm
      obtain ⟨a', cap', rfl, _, _, _⟩ := hl.form
      obtain ⟨rv, hrv⟩ : ∃ rv, rv = Value.slice a' m.rows.length cap' := ⟨_, rfl⟩
      rw [← hrv] at hl
      have hlr := hl.ext (ext_alloc' hb (.cells #[.int .i64 m.cols, rv] 24))
      have R0 := row_new wr [.int .i64 m.cols, rv] 24
      have HC := Lib.hid (refFew_calls (v := .agg #[.int .i64 m.cols, rv]) (m := m) ⟨rv, rfl, hlr⟩)
      have NO : (fewM m && decide (checkM m = 0)) = false → Hid (E = false) := fun hf => Lib.hid (by
        rw [HE.out, List.all_eq_false]
        refine ⟨nthM ms k, ?_, by rw [← HK.out, hf]; simp⟩
        simp [nthM, hlt])
      have YES : (fewM m && decide (checkM m = 0)) = true → Hid (∀ j, j < k + 1 → (fewM (nthM ms j) && decide (checkM (nthM ms j) = 0)) = true) := fun hf => Lib.hid (fun j hj => by
        rcases Nat.lt_or_ge j k with h | h
        · exact hF.out j h
        · obtain rfl : j = k := by omega
          rw [← HK.out]; exact hf)
      have HNO := Lib.hid NO
      have HYES := Lib.hid YES
      clear NO YES
      subst hrv
      go_wp2_with fail
      refine HC.out.mono ?_
      rintro _ w1 ⟨_, rfl, hb1, rfl⟩
      have hb2 := ext_trans (ext_alloc' hb (.cells #[.int .i64 m.cols, .slice a' m.rows.length cap'] 24)) hb1
      have hl1 := hlr.ext hb1
      have R0 := R0.ext hb1
      cases hf : fewM m with
      | false =>
        have HR := HNO.out (by rw [hf]; rfl)
        clear hf
        go_wp2
        go_ret
        exact .mk hb2 (bool_eq HR.out.symm)
      | true =>
        obtain ⟨R0a, R0b⟩ := R0.two
        obtain ⟨ck, hck⟩ : ∃ ck, ck = checkM m := ⟨_, rfl⟩
        have KC := Lib.hid (refCheck_gen (va := .agg #[.int .i64 m.cols, .slice a' m.rows.length cap']) ⟨_, rfl, hl1⟩ hck.symm)
        have HCK := Lib.hid hck
        have HF := Lib.hid hf
        clear hf hck
        go_wp2_with fail
        refine KC.out.mono ?_
        rintro _ w2 ⟨_, rfl, hb3, rfl⟩
        have hb4 := ext_trans hb2 hb3
        by_cases hc : ck = 0
        · have e1 : (ck != 0) = false := by simp [hc]
          have HR := HYES.out (by rw [HF.out, ← HCK.out, hc]; rfl)
          clear hc
          go_wp2
          go_roundw
          case rel => exact ⟨k + 1, by omega, by go_num, hb4, HR⟩
          case measure => simp [intOf]; omega
        · have e1 : (ck != 0) = true := by simp [hc]
          have HR := HNO.out (by rw [HF.out, ← HCK.out, decide_eq_false hc]; rfl)
          clear hc
          go_wp2
          go_ret
          exact .mk hb4 (bool_eq HR.out.symm)
    · have HR : Hid (E = true) := Lib.hid (by
        rw [HE.out, List.all_eq_true]
        intro m hm
        obtain ⟨j, hj, rfl⟩ := List.getElem_of_mem hm
        have := hF.out j (by omega)
        simpa [nthM, hj] using this)
      go_wp2
      go_ret
      exact .mk hb (bool_eq HR.out.symm)
/-- playMatrices(m), behind the making of its list. -/
theorem play1 {S : Nat → Prop} {w : World} {B : Nat} {c : Int} {a : Option Addr} {n cap : Nat} {ll : List (List Int)} {e : TypeId} {q : Bool} (h : MatV S w (.agg #[.int .i64 c, .slice a n cap]) ⟨c, ll⟩) (hB : B = w.heap.size) (hq : (fewM ⟨c, ll⟩ && decide (checkM ⟨c, ll⟩ = 0)) = q) :
    Calls Try.prog 29 #[.slice (some ⟨B, 0, none⟩) 1 1] (w.alloc (.cells #[.int .i64 c, .slice a n cap] e)) (Post (w.alloc (.cells #[.int .i64 c, .slice a n cap] e)) fun _ r => r = .bool q) := by
  subst hB hq
  obtain ⟨rv, hv, hl⟩ := h
  have hrv : rv = .slice a n cap := by
    have := congrArg (fun v => match v with | .agg xs => xs[1]? | _ => none) hv
    simpa using this.symm
  subst hrv
  have hM : MatsV S (w.alloc (.cells #[.int .i64 c, .slice a n cap] e)) w.heap.size [⟨c, ll⟩] := by
    refine ⟨by simp, fun j hj => ?_⟩
    obtain rfl : j = 0 := by simpa using hj
    have r := row_new w [.int .i64 c, .slice a n cap] e
    exact ⟨_, r.two.1, r.two.2, hl.ext (ext_alloc _ _)⟩
  have := play_calls hM (by simp)
  simpa using this
end Go.Proofs.Ytijmjliijjkcbaa
