/- Transposes and images: plain data. -/
import Derived.Test.YtijmjliijjkcbaaMxPar
namespace Go.Proofs.Ytijmjliijjkcbaa
set_option linter.unusedVariables false

/-- The numbers below k with p. -/
def numsTo (p : Nat → Bool) (k : Nat) : List Int := ((List.range k).filter p).map (fun (i : Nat) => (i : Int))
theorem numsTo_succ (p : Nat → Bool) (k : Nat) : numsTo p (k + 1) = numsTo p k ++ (if p k = true then [(k : Int)] else []) := by
  unfold numsTo
  rw [List.range_succ, List.filter_append, List.map_append, List.filter_cons]
  split <;> simp
theorem mem_numsTo {p : Nat → Bool} {k : Nat} {z : Int} : z ∈ numsTo p k ↔ 0 ≤ z ∧ z < k ∧ p z.toNat = true := by
  unfold numsTo
  rw [List.mem_map]
  constructor
  · rintro ⟨i, hi, rfl⟩
    rw [List.mem_filter, List.mem_range] at hi
    exact ⟨by omega, by omega, by simpa using hi.2⟩
  · rintro ⟨h0, h1, h2⟩
    exact ⟨z.toNat, by rw [List.mem_filter, List.mem_range]; exact ⟨by omega, h2⟩, by omega⟩
theorem numsTo_ord (p : Nat → Bool) (k : Nat) : Ord (numsTo p k) := by
  unfold Ord numsTo
  rw [List.pairwise_map]
  exact ((List.pairwise_lt_range (n := k)).filter p).imp fun h => by omega
theorem numsTo_length (p : Nat → Bool) (k : Nat) : (numsTo p k).length ≤ k := by
  unfold numsTo
  rw [List.length_map]
  exact Nat.le_trans (List.length_filter_le _ _) (by simp)
theorem numsTo_congr {p q : Nat → Bool} {k : Nat} (h : ∀ i, i < k → p i = q i) : numsTo p k = numsTo q k := by
  unfold numsTo
  rw [List.filter_congr fun i hi => h i (List.mem_range.1 hi)]

/-- A matrix applied to a vector. -/
def imageV (R : List (List Int)) (x : List Int) : List Int := numsTo (fun i => oddV (nthL R i) x) R.length
def applyS (m : Mx) (x : List Int) : List Int × Int := if checkM m ≠ 0 then ([], checkM m) else if vecE m.cols x ≠ 0 then ([], vecE m.cols x) else (imageV m.rows x, 0)
theorem applyS_err {m : Mx} {x : List Int} (h : checkM m ≠ 0) : applyS m x = ([], checkM m) := by unfold applyS; rw [if_pos h]
theorem applyS_vec {m : Mx} {x : List Int} (h : checkM m = 0) (h2 : vecE m.cols x ≠ 0) : applyS m x = ([], vecE m.cols x) := by unfold applyS; rw [if_neg (by simp [h]), if_pos h2]
theorem applyS_ok {m : Mx} {x : List Int} (h : checkM m = 0) (h2 : vecE m.cols x = 0) : applyS m x = (imageV m.rows x, 0) := by unfold applyS; rw [if_neg (by simp [h]), if_neg (by simp [h2])]

/-- The rows that have a column. -/
def colTo (R : List (List Int)) (k : Nat) (c : Int) : List Int := numsTo (fun i => memB (nthL R i) c) k
def colV (R : List (List Int)) (c : Int) : List Int := colTo R R.length c
def turnedRows (n : Nat) (R : List (List Int)) : List (List Int) := (List.range n).map fun c => colV R (c : Nat)
def turned (m : Mx) : Mx := ⟨m.rows.length, turnedRows m.cols.toNat m.rows⟩
def transS (m : Mx) : Mx × Int := if checkM m ≠ 0 then (⟨0, []⟩, checkM m) else (turned m, 0)
theorem transS_err {m : Mx} (h : checkM m ≠ 0) : transS m = (⟨0, []⟩, checkM m) := by unfold transS; rw [if_pos h]
theorem transS_ok {m : Mx} (h : checkM m = 0) : transS m = (turned m, 0) := by unfold transS; rw [if_neg (by simp [h])]
theorem turnedRows_length (n : Nat) (R : List (List Int)) : (turnedRows n R).length = n := by simp [turnedRows]
theorem nthL_turned {n : Nat} {R : List (List Int)} {c : Nat} (h : c < n) : nthL (turnedRows n R) c = colV R (c : Nat) := by
  simp [nthL, turnedRows, h]
theorem turnedRows_take {n : Nat} {R : List (List Int)} {c : Nat} (h : c < n) : (turnedRows n R).take (c + 1) = (turnedRows n R).take c ++ [colV R (c : Nat)] := by
  rw [take_nthL (by rw [turnedRows_length]; exact h), nthL_turned h]

/-- The program's rows behind k rows and l elements of the next one. -/
def trLL (R : List (List Int)) (k l n : Nat) : List (List Int) := (List.range n).map fun c => colTo R k (c : Nat) ++ (if memB ((nthL R k).take l) (c : Nat) = true then [(k : Int)] else [])
theorem trLL_length (R : List (List Int)) (k l n : Nat) : (trLL R k l n).length = n := by simp [trLL]
theorem nthL_trLL {R : List (List Int)} {k l n c : Nat} (h : c < n) : nthL (trLL R k l n) c = colTo R k (c : Nat) ++ (if memB ((nthL R k).take l) (c : Nat) = true then [(k : Int)] else []) := by
  simp [nthL, trLL, h]
theorem trLL_zero (R : List (List Int)) (n : Nat) : trLL R 0 0 n = List.replicate n [] := by
  unfold trLL
  refine List.ext_getElem (by simp) fun i h1 h2 => ?_
  simp [colTo, numsTo, memB]
theorem trLL_next {R : List (List Int)} {k n : Nat} (hk : k < R.length) : trLL R k (nthL R k).length n = trLL R (k + 1) 0 n := by
  unfold trLL
  refine List.map_congr_left fun c _ => ?_
  rw [List.take_length]
  show _ = colTo R (k + 1) _ ++ _
  unfold colTo
  rw [numsTo_succ]
  simp [memB]
theorem trLL_end {R : List (List Int)} {n : Nat} : trLL R R.length 0 n = turnedRows n R := by
  unfold trLL turnedRows colV
  refine List.map_congr_left fun c _ => ?_
  simp [memB]
theorem trLL_set {R : List (List Int)} {k l n x : Nat} (ho : Ord (nthL R k)) (hl : l < (nthL R k).length) (hx : nth (nthL R k) l = (x : Int)) (hxn : x < n) :
    (trLL R k l n).set x (nthL (trLL R k l n) x ++ [(k : Int)]) = trLL R k (l + 1) n := by
  have hnot : memB ((nthL R k).take l) (x : Int) = false := by
    simp only [memB, decide_eq_false_iff_not]
    intro hm
    rw [List.mem_take_iff_getElem] at hm
    obtain ⟨j, hj, e⟩ := hm
    have h1 := List.pairwise_iff_getElem.1 ho j l (by omega) hl (by omega)
    rw [← nth_eq hl, hx] at h1
    omega
  refine List.ext_getElem (by simp [trLL]) fun i h1 h2 => ?_
  have hi : i < n := by simpa [trLL] using h2
  rw [List.getElem_set]
  split
  · rename_i he
    subst he
    rw [nthL_trLL hxn, hnot]
    simp only [trLL, List.getElem_map, List.getElem_range, Bool.false_eq_true, ↓reduceIte, List.append_nil]
    rw [if_pos]
    rw [take_nth hl, hx]
    simp [memB]
  · rename_i he
    simp only [trLL, List.getElem_map, List.getElem_range]
    congr 2
    rw [take_nth hl, hx]
    have : (i : Int) ≠ x := by omega
    simp [memB, this]
end Go.Proofs.Ytijmjliijjkcbaa
