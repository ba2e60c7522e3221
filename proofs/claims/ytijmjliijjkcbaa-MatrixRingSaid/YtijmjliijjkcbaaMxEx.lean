/- The chapter's example: what the functions return for it. -/
import Derived.Test.YtijmjliijjkcbaaMxKern
import Derived.Test.YtijmjliijjkcbaaMxVerify
namespace Go.Proofs.Ytijmjliijjkcbaa
set_option linter.unusedVariables false

def exR : List (List Int) := [[0, 1], [1, 2], [0, 2], [3]]
def exM : Mx := ⟨4, exR⟩

theorem vecE_ok {n : Int} {l : List Int} (h : l.Pairwise (· < ·)) (h2 : ∀ x ∈ l, 0 ≤ x ∧ x < n) : vecE n l = 0 := vecE_zero.mpr ⟨h, h2⟩
theorem checkM_ok {m : Mx} (h0 : 0 ≤ m.cols ∧ m.cols ≤ 4096) (h1 : m.rows.length ≤ 4096) (h2 : ∀ r ∈ m.rows, r.Pairwise (· < ·)) (h3 : ∀ r ∈ m.rows, ∀ x ∈ r, 0 ≤ x ∧ x < m.cols) : checkM m = 0 :=
  checkM_zero.mpr ⟨h0.1, h0.2, h1, h2, h3⟩
theorem exM_check : checkM exM = 0 := checkM_ok (by decide) (by decide) (by decide) (by decide)

theorem ex_echTo : echTo exR 4 = (insM (insM (insM (fun _ => none) ([0, 1], [0])) ([1, 2], [1])) ([3], [3]), [[0, 1, 2]]) := by
  have h1 : echTo exR 1 = (insM (fun _ => none) ([0, 1], [0]), []) := by
    simp [echTo, echStep, echX, exR, nthL, redP, fuelP]
  have h2 : echTo exR 2 = (insM (insM (fun _ => none) ([0, 1], [0])) ([1, 2], [1]), []) := by
    rw [echTo, h1]
    simp [echStep, echX, exR, nthL, redP, fuelP, nth, insM, lead]
  have h3 : echTo exR 3 = (insM (insM (fun _ => none) ([0, 1], [0])) ([1, 2], [1]), [[0, 1, 2]]) := by
    rw [echTo, h2]
    simp [echStep, echX, exR, nthL, redP, fuelP, nth, insM, lead, addL, xorL, memB]
  rw [echTo, h3]
  simp [echStep, echX, exR, nthL, redP, fuelP, nth, insM, lead, addL, memB]
theorem ex_lines : linesE exM = [([0, 2], [0, 1]), ([1, 2], [1]), ([3], [3])] := by
  unfold linesE
  rw [show exM.rows = exR from rfl, show exR.length = 4 from rfl, ex_echTo]
  simp [exM, outTo, List.range_succ, insM, lead, addL, xorL, memB]
theorem ex_deps : depsE exM = [[0, 1, 2]] := by
  unfold depsE
  rw [show exM.rows = exR from rfl, show exR.length = 4 from rfl, ex_echTo]
theorem ex_rows : rowsE exM = [[0, 2], [1, 2], [3]] := by unfold rowsE; rw [ex_lines]; rfl
theorem ech_ex : echS exM = (⟨4, [[0, 2], [1, 2], [3]]⟩, 0) := by
  unfold echS; rw [if_neg (by rw [exM_check]; decide), ex_rows]; rfl
theorem ker_ex : kerS exM = (⟨4, [[0, 1, 2]]⟩, 0) := by
  unfold kerS; rw [if_neg (by rw [exM_check]; decide), ex_rows, show exM.cols.toNat = 4 from rfl]
  have h : kerTo [[0, 2], [1, 2], [3]] 4 = [sortL [2, 0, 1]] := rfl
  have h2 : sortL [2, 0, 1] = [0, 1, 2] := by simp [sortL, List.mergeSort, List.MergeSort.Internal.splitInTwo]
  rw [h, h2]
  rfl
theorem trans_ex : transS exM = (⟨4, [[0, 2], [0, 1], [1, 2], [3]]⟩, 0) := by
  unfold transS; rw [if_neg (by rw [exM_check]; decide)]
  have : turnedRows 4 exR = [[0, 2], [0, 1], [1, 2], [3]] := by decide
  rw [show turned exM = ⟨4, turnedRows 4 exR⟩ from rfl, this]
theorem sol_ex1 : solS exM [0, 1, 3] = (([1, 3], []), (true, 0)) := by
  unfold solS solD solX
  rw [if_neg (by rw [exM_check]; decide), if_neg (by rw [vecE_ok (by decide) (by decide)]; decide), ex_deps, ex_lines]
  decide
theorem sol_ex2 : solS exM [0] = (([], [0, 1, 2]), (false, 0)) := by
  unfold solS solD solX
  rw [if_neg (by rw [exM_check]; decide), if_neg (by rw [vecE_ok (by decide) (by decide)]; decide), ex_deps, ex_lines]
  decide
theorem sum_ex : sumRows exR [0, 1, 2] = [] := by simp [sumRows, exR, nthL, xorL]
theorem ver_ex1 : verS exM [0] [0, 1, 2] = 0 := by
  unfold verS
  rw [if_neg (by rw [exM_check]; decide), if_neg (by rw [vecE_ok (by decide) (by decide)]; decide), if_neg (by rw [vecE_ok (by decide) (by decide)]; decide), show exM.rows = exR from rfl, sum_ex]
  decide
theorem ver_ex2 : verS exM [0, 1, 3] [0, 1, 2] = 18 := by
  unfold verS
  rw [if_neg (by rw [exM_check]; decide), if_neg (by rw [vecE_ok (by decide) (by decide)]; decide), if_neg (by rw [vecE_ok (by decide) (by decide)]; decide), show exM.rows = exR from rfl, sum_ex]
  decide
end Go.Proofs.Ytijmjliijjkcbaa
