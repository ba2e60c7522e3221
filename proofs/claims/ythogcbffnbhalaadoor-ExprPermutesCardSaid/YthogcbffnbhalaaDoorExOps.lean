/- The functions of an operation alone. -/
import Derived.Test.YthogcbffnbhalaaDoorExMem
namespace Go.Proofs.YthogcbffnbhalaaDoor
set_option linter.unusedVariables false
open Go.RowKit

theorem known_cases {op : Int} (h0 : 0 ≤ op) (h1 : op ≤ 15) : op = 0 ∨ op = 1 ∨ op = 2 ∨ op = 3 ∨ op = 4 ∨ op = 5 ∨ op = 6 ∨ op = 7 ∨ op = 8 ∨ op = 9 ∨ op = 10 ∨ op = 11 ∨ op = 12 ∨ op = 13 ∨ op = 14 ∨ op = 15 := by omega

theorem quantifier_quiet (w : World) (op : Int) : Calls Tryd.prog 48 #[.int .i64 op] w (QuietP w (.bool (quant op))) := by
  by_cases h1 : op = 13
  · subst h1
    go_enter Tryd.func48, Tryd.ntmps48
    go_wp2
    go_ret
    exact .of rfl 0
  · by_cases h2 : op = 14
    · subst h2
      go_enter Tryd.func48, Tryd.ntmps48
      go_wp2
      go_ret
      exact .of rfl 0
    · have f1 : (op == 13) = false := beq_eq_false_iff_ne.2 h1
      have f2 : (op == 14) = false := beq_eq_false_iff_ne.2 h2
      have f3 : (op == 15) = quant op := by
        unfold quant
        by_cases h3 : op = 15
        · subst h3; rfl
        · rw [beq_eq_false_iff_ne.2 h3]; symm; simp; omega
      go_enter Tryd.func48, Tryd.ntmps48
      go_wp2
      go_ret
      exact .of rfl 0

theorem quantifies_quiet (w : World) (op : Int) : Calls Tryd.prog 60 #[.int .i64 op] w (QuietP w (.bool (quant op))) := by
  by_cases h1 : 13 ≤ op
  · have f1 : decide (13 ≤ op) = true := by simpa using h1
    have f2 : quant op = decide (op ≤ 15) := by unfold quant; rw [f1]; rfl
    rw [f2]
    go_enter Tryd.func60, Tryd.ntmps60
    go_wp2
    go_ret
    exact .of rfl 0
  · have f1 : decide (13 ≤ op) = false := by simpa using h1
    have f2 : quant op = false := by unfold quant; rw [f1]; rfl
    rw [f2]
    go_enter Tryd.func60, Tryd.ntmps60
    go_wp2
    go_ret
    exact .of rfl 0

theorem known_quiet (w : World) (op : Int) : Calls Tryd.prog 63 #[.int .i64 op] w (QuietP w (.bool (decide (0 ≤ arity op)))) := by
  by_cases h1 : 0 ≤ op
  · have f1 : decide (0 ≤ op) = true := by simpa using h1
    have f2 : decide (0 ≤ arity op) = decide (op < 16) := by
      unfold arity
      by_cases h2 : op < 16
      · rw [if_neg (by omega), decide_eq_true h2]; simp; split <;> (try split) <;> omega
      · rw [if_pos (by omega), decide_eq_false h2]; rfl
    rw [f2]
    go_enter Tryd.func63, Tryd.ntmps63
    go_wp2
    go_ret
    exact .of rfl 0
  · have f1 : decide (0 ≤ op) = false := by simpa using h1
    have f2 : decide (0 ≤ arity op) = false := by unfold arity; rw [if_pos (by omega)]; rfl
    rw [f2]
    go_enter Tryd.func63, Tryd.ntmps63
    go_wp2
    go_ret
    exact .of rfl 0

theorem small_quiet (w : World) (n : Int) : Calls Tryd.prog 26 #[.int .i64 n] w (QuietP w (.bool (small n))) := by
  by_cases h1 : -1048576 ≤ n
  · have f1 : decide (-1048576 ≤ n) = true := by simpa using h1
    have f2 : small n = decide (n ≤ 1048576) := by unfold small; rw [f1]; rfl
    rw [f2]
    go_enter Tryd.func26, Tryd.ntmps26
    go_wp2
    go_ret
    exact .of rfl 0
  · have f1 : decide (-1048576 ≤ n) = false := by simpa using h1
    have f2 : small n = false := by unfold small; rw [f1]; rfl
    rw [f2]
    go_enter Tryd.func26, Tryd.ntmps26
    go_wp2
    go_ret
    exact .of rfl 0

theorem arity_quiet (w : World) (op : Int) : Calls Tryd.prog 64 #[.int .i64 op] w (QuietP w (.int .i64 (arity op))) := by
  by_cases h0 : op < 0
  · have f1 : decide (op < 0) = true := by simpa using h0
    have f2 : arity op = -1 := by unfold arity; rw [if_pos (by omega)]
    rw [f2]
    go_enter Tryd.func64, Tryd.ntmps64
    go_wp2
    go_ret
    exact .of rfl 0
  · by_cases h1 : 15 < op
    · have f0 : decide (op < 0) = false := by simpa using h0
      have f1 : decide (15 < op) = true := by simpa using h1
      have f2 : arity op = -1 := by unfold arity; rw [if_pos (by omega)]
      rw [f2]
      go_enter Tryd.func64, Tryd.ntmps64
      go_wp2
      go_ret
      exact .of rfl 0
    · rcases known_cases (op := op) (by omega) (by omega) with rfl | rfl | rfl | rfl | rfl | rfl | rfl | rfl | rfl | rfl | rfl | rfl | rfl | rfl | rfl | rfl
      all_goals
        go_enter Tryd.func64, Tryd.ntmps64
        go_wp2
        go_ret
        exact .of rfl 0

theorem kindOf_quiet (w : World) (op : Int) (h0 : 0 ≤ op) (h1 : op ≤ 15) : Calls Tryd.prog 65 #[.int .i64 op] w (QuietP w (.int .i64 (kindOf op))) := by
  rcases known_cases h0 h1 with rfl | rfl | rfl | rfl | rfl | rfl | rfl | rfl | rfl | rfl | rfl | rfl | rfl | rfl | rfl | rfl
  all_goals
    go_enter Tryd.func65, Tryd.ntmps65
    go_wp2
    go_ret
    exact .of rfl 0

theorem argKind_quiet (w : World) (op : Int) : Calls Tryd.prog 66 #[.int .i64 op] w (QuietP w (.int .i64 (argKind op))) := by
  by_cases h1 : 10 ≤ op
  · rw [show argKind op = 1 from if_pos h1]
    go_enter Tryd.func66, Tryd.ntmps66
    go_wp2
    go_ret
    exact .of rfl 0
  · rw [show argKind op = 0 from if_neg h1]
    go_enter Tryd.func66, Tryd.ntmps66
    go_wp2
    go_ret
    exact .of rfl 0
end Go.Proofs.YthogcbffnbhalaaDoor

