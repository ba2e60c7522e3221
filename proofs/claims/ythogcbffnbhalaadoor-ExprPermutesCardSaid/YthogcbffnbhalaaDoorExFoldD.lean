/- The program's folded. -/
import Derived.Test.YthogcbffnbhalaaDoorExConst
namespace Go.Proofs.YthogcbffnbhalaaDoor
set_option linter.unusedVariables false
open Go.RowKit
attribute [local go_sem ↓] Go.wp_at_zero Go.wp_at_succ

def FoldC (e : Ex) : Prop := ∀ (S : Nat → Prop) (W : World) (v : Value), ExprV S W e v → Calls Tryd.prog 37 #[v] W (Post W fun W' r => ExprV (fun b => W.heap.size ≤ b) W' (foldE e) r)

theorem el_one {S : Nat → Prop} {w : World} {X z : Ex} {op : Int} {fa : Option Addr} {fc : Nat} (hX : X = oneE op z) (h : ExprV S w X (.agg #[.int .i64 X.op, .int .i64 X.num, .slice fa X.args.length fc])) : ∃ b off a' c', El S w fa X.args.length fc 0 z b off a' c' := by
  subst hX
  obtain ⟨a, cap, b, off, a', c', hv, hel⟩ := h.one
  have e : Value.slice fa 1 fc = .slice a 1 cap := by
    have h2 : Value.agg #[.int .i64 op, .int .i64 0, .slice fa 1 fc] = .agg #[.int .i64 op, .int .i64 0, .slice a 1 cap] := hv
    simpa using h2
  simp only [Value.slice.injEq, true_and] at e
  obtain ⟨rfl, rfl⟩ := e
  exact ⟨b, off, a', c', hel⟩
theorem cmpV_range {op a b : Int} (h5 : 5 ≤ op) (h9 : op ≤ 9) (ha : -1048576 ≤ a ∧ a ≤ 1048576) (hb : -1048576 ≤ b ∧ b ≤ 1048576) : -4194304 ≤ cmpV op a b ∧ cmpV op a b ≤ 4194304 := by
  have : op = 5 ∨ op = 6 ∨ op = 7 ∨ op = 8 ∨ op = 9 := by omega
  rcases this with rfl | rfl | rfl | rfl | rfl
  · show -4194304 ≤ a + b ∧ a + b ≤ 4194304; omega
  · show -4194304 ≤ a - b ∧ a - b ≤ 4194304; omega
  · have := flag_range (decide (a = b)); show -4194304 ≤ flag (decide (a = b)) ∧ flag (decide (a = b)) ≤ 4194304; omega
  · have := flag_range (decide (a < b)); show -4194304 ≤ flag (decide (a < b)) ∧ flag (decide (a < b)) ≤ 4194304; omega
  · have := flag_range (decide (a ≤ b)); show -4194304 ≤ flag (decide (a ≤ b)) ∧ flag (decide (a ≤ b)) ≤ 4194304; omega

end Go.Proofs.YthogcbffnbhalaaDoor

