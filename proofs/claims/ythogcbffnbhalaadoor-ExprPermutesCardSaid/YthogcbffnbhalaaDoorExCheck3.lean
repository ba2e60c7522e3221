/- The check of an expression, on both sides; its kind. -/
import Derived.Test.YthogcbffnbhalaaDoorExCheck2
namespace Go.Proofs.YthogcbffnbhalaaDoor
set_option linter.unusedVariables false
open Go.RowKit

set_option maxRecDepth 100000 in
set_option maxHeartbeats 1000000 in
theorem check_calls {S : Nat → Prop} {w : World} {e : Ex} {v : Value} (hT : Tab w) (h : ExprV S w e v) (hsz : sizeE e ≤ 60000) (vars : Int) :
    Calls Tryd.prog 24 #[v, .int .i64 vars] w (Post w fun _ r => r = .int .i64 (checkE e vars)) := by
  obtain ⟨a, cap, rfl, wo, wn, ha, hl, hm⟩ := h.parts
  have hdp := depthE_le_size e
  obtain ⟨R, hR⟩ : ∃ R, R = checkE e vars := ⟨_, rfl⟩
  rw [← hR]
  unfold checkE at hR
  have ex1 := ext_alloc w (.cells #[.int .i64 e.op, .int .i64 e.num, .slice a e.args.length cap] 24)
  have r1 := row_new w [.int .i64 e.op, .int .i64 e.num, .slice a e.args.length cap] 24
  go_enter Tryd.func24, Tryd.ntmps24
  by_cases h1 : vars < 0
  · have d1 : decide (vars < 0) = true := by simpa using h1
    rw [if_pos (by omega)] at hR
    have HR := Lib.hid hR
    clear hR
    go_wp2
    go_ret
    exact .mk ex1 (int_eq HR.out.symm)
  · have d1 : decide (vars < 0) = false := by simpa using h1
    by_cases h2 : 24 < vars
    · have d2 : decide (24 < vars) = true := by simpa using h2
      rw [if_pos (by omega)] at hR
      have HR := Lib.hid hR
      clear hR
      go_wp2
      go_ret
      exact .mk ex1 (int_eq HR.out.symm)
    · have d2 : decide (24 < vars) = false := by simpa using h2
      rw [if_neg (by omega)] at hR
      go_wp2_with fail
      refine (size_calls h _ ex1 (by omega)).mono ?_
      rintro _ w1 ⟨_, rfl, hb1, rfl⟩
      have e1 := ext_trans ex1 hb1
      have r2 := r1.ext hb1
      have c0 := r2.cell (j := 0) rfl
      have c1 := r2.cell (j := 1) rfl
      have c2 := r2.cell (j := 2) rfl
      obtain ⟨n, hn⟩ : ∃ n : Int, n = (sizeE e : Nat) := ⟨_, rfl⟩
      obtain ⟨d, hd⟩ : ∃ d : Int, d = (depthE e : Nat) := ⟨_, rfl⟩
      rw [← hn, ← hd]
      by_cases h3 : 128 < sizeE e
      · have d3 : decide (128 < n) = true := by simp; omega
        rw [if_pos h3] at hR
        have HR := Lib.hid hR
        clear hR hn hd
        go_wp2
        go_ret
        exact .mk e1 (int_eq HR.out.symm)
      · have d3 : decide (128 < n) = false := by simp; omega
        rw [if_neg h3] at hR
        by_cases h4 : 24 < depthE e
        · have d4 : decide (24 < d) = true := by simp; omega
          rw [if_pos h4] at hR
          have HR := Lib.hid hR
          clear hR hn hd
          go_wp2
          go_ret
          exact .mk e1 (int_eq HR.out.symm)
        · have d4 : decide (24 < d) = false := by simp; omega
          rw [if_neg h4] at hR
          have HR := Lib.hid hR
          clear hR hn hd
          go_wp2_with fail
          refine (nodes_calls hT h _ vars e1 (by omega) (by omega) (by omega)).mono ?_
          rintro _ w2 ⟨_, rfl, hb2, rfl⟩
          go_wp2
          go_ret
          exact .mk (ext_trans e1 hb2) (int_eq HR.out.symm)

set_option maxRecDepth 100000 in
set_option maxHeartbeats 1000000 in
theorem refCheck_calls {S : Nat → Prop} {w : World} {e : Ex} {v : Value} (h : ExprV S w e v) (hsz : sizeE e ≤ 60000) (vars : Int) :
    Calls Tryd.prog 31 #[v, .int .i64 vars] w (Post w fun _ r => r = .int .i64 (checkE e vars)) := by
  obtain ⟨a, cap, rfl, wo, wn, ha, hl, hm⟩ := h.parts
  have hdp := depthE_le_size e
  obtain ⟨R, hR⟩ : ∃ R, R = checkE e vars := ⟨_, rfl⟩
  rw [← hR]
  unfold checkE at hR
  have ex1 := ext_alloc w (.cells #[.int .i64 e.op, .int .i64 e.num, .slice a e.args.length cap] 24)
  have r1 := row_new w [.int .i64 e.op, .int .i64 e.num, .slice a e.args.length cap] 24
  go_enter Tryd.func31, Tryd.ntmps31
  by_cases h1 : vars < 0
  · have d1 : decide (vars < 0) = true := by simpa using h1
    rw [if_pos (by omega)] at hR
    have HR := Lib.hid hR
    clear hR
    go_wp2
    go_ret
    exact .mk ex1 (int_eq HR.out.symm)
  · have d1 : decide (vars < 0) = false := by simpa using h1
    by_cases h2 : 24 < vars
    · have d2 : decide (24 < vars) = true := by simpa using h2
      rw [if_pos (by omega)] at hR
      have HR := Lib.hid hR
      clear hR
      go_wp2
      go_ret
      exact .mk ex1 (int_eq HR.out.symm)
    · have d2 : decide (24 < vars) = false := by simpa using h2
      rw [if_neg (by omega)] at hR
      go_wp2_with fail
      refine (refSize_calls h _ ex1 (by omega)).mono ?_
      rintro _ w1 ⟨_, rfl, hb1, rfl⟩
      have e1 := ext_trans ex1 hb1
      have r2 := r1.ext hb1
      have c0 := r2.cell (j := 0) rfl
      have c1 := r2.cell (j := 1) rfl
      have c2 := r2.cell (j := 2) rfl
      obtain ⟨n, hn⟩ : ∃ n : Int, n = (sizeE e : Nat) := ⟨_, rfl⟩
      obtain ⟨d, hd⟩ : ∃ d : Int, d = (depthE e : Nat) := ⟨_, rfl⟩
      rw [← hn, ← hd]
      by_cases h3 : 128 < sizeE e
      · have d3 : decide (128 < n) = true := by simp; omega
        rw [if_pos h3] at hR
        have HR := Lib.hid hR
        clear hR hn hd
        go_wp2
        go_ret
        exact .mk e1 (int_eq HR.out.symm)
      · have d3 : decide (128 < n) = false := by simp; omega
        rw [if_neg h3] at hR
        by_cases h4 : 24 < depthE e
        · have d4 : decide (24 < d) = true := by simp; omega
          rw [if_pos h4] at hR
          have HR := Lib.hid hR
          clear hR hn hd
          go_wp2
          go_ret
          exact .mk e1 (int_eq HR.out.symm)
        · have d4 : decide (24 < d) = false := by simp; omega
          rw [if_neg h4] at hR
          have HR := Lib.hid hR
          clear hR hn hd
          go_wp2_with fail
          refine (refNodes_calls h _ vars e1 (by omega) (by omega) (by omega)).mono ?_
          rintro _ w2 ⟨_, rfl, hb2, rfl⟩
          go_wp2
          go_ret
          exact .mk (ext_trans e1 hb2) (int_eq HR.out.symm)
end Go.Proofs.YthogcbffnbhalaaDoor

