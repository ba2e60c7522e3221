/- The program's Fold. -/
import Derived.Test.YthogcbffnbhalaaDoorExFoldC1
import Derived.Test.YthogcbffnbhalaaDoorExFoldC2
import Derived.Test.YthogcbffnbhalaaDoorExFoldC3
import Derived.Test.YthogcbffnbhalaaDoorExFoldC4
namespace Go.Proofs.YthogcbffnbhalaaDoor
set_option linter.unusedVariables false
open Go.RowKit

theorem Wf.not_form {vars : Int} {e : Ex} (h : Wf vars e) (h12 : e.op = 12) : ∃ z, e = oneE 12 z := by
  rcases h.forms with ⟨n, rfl, hs⟩ | ⟨n, rfl, _⟩ | ⟨op, x, rfl, ho, _⟩ | ⟨op, x, y, rfl, h4, h5, _⟩
  · simp [numE, Ex.op] at h12
  · simp [varE, Ex.op] at h12
  · obtain rfl : op = 12 := h12
    exact ⟨x, rfl⟩
  · simp only [twoE, Ex.op] at h12; omega
theorem folded_all {vars : Int} {e : Ex} (h : Wf vars e) : FoldC e := by
  induction h using Wf.rec4 with
  | hn vars n h => exact fold_leaf 0 n (.inl rfl)
  | hv vars n h h1 => exact fold_leaf 1 n (.inr rfl)
  | h1 vars op x ho hk hx ih =>
    rcases ho with rfl | rfl | rfl | rfl | rfl | rfl
    · exact fold_inout 2 x (.inl rfl) ih
    · exact fold_inout 3 x (.inr rfl) ih
    · exact fold_not x (fun h12 => (Kept.fold hx).wf.not_form h12) ih
    · exact fold_all x ih
    · exact fold_some x ih
    · exact fold_count x ih
  | h2 vars op x y h4 h11 hk hk2 hx hy ih ih2 =>
    have hsx : (foldE x).op = 0 → small (foldE x).num = true := fun h => (op_zero_num (Kept.fold hx).wf h).2
    have hsy : (foldE y).op = 0 → small (foldE y).num = true := fun h => (op_zero_num (Kept.fold hy).wf h).2
    have : op = 4 ∨ op = 5 ∨ op = 6 ∨ op = 7 ∨ op = 8 ∨ op = 9 ∨ op = 10 ∨ op = 11 := by omega
    rcases this with rfl | rfl | rfl | rfl | rfl | rfl | rfl | rfl
    · exact fold_hears x y ih ih2
    · exact fold_num5 x y hsx hsy ih ih2
    · exact fold_num6 x y hsx hsy ih ih2
    · exact fold_num7 x y hsx hsy ih ih2
    · exact fold_num8 x y hsx hsy ih ih2
    · exact fold_num9 x y hsx hsy ih ih2
    · exact fold_logic10 x y ih ih2
    · exact fold_logic11 x y ih ih2
end Go.Proofs.YthogcbffnbhalaaDoor

