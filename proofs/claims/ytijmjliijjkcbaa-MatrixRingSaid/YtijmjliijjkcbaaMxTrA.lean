/- Transposes and images: plain data. A matrix applied to a vector, in the program and in the reference. The reference's images and transposes. The reference's transpose. -/
import Derived.Test.YtijmjliijjkcbaaMxA
import Derived.Test.YtijmjliijjkcbaaMxRowsA
/- Transposes and images: plain data. -/
namespace Go.Proofs.Ytijmjliijjkcbaa
set_option linter.unusedVariables false

/-- The numbers below k with p. -/
def numsTo (p : Nat → Bool) (k : Nat) : List Int := ((List.range k).filter p).map (fun (i : Nat) => (i : Int))
theorem numsTo_succ (p : Nat → Bool) (k : Nat) : numsTo p (k + 1) = numsTo p k ++ (if p k = true then [(k : Int)] else []) := by
  unfold numsTo
  rw [List.range_succ, List.filter_append, List.map_append, List.filter_cons]
  split <;> simp
theorem mem_numsTo {p : Nat → Bool} {k : Nat} {z : Int} : z ∈ numsTo p k ↔ 0 ≤ z ∧ z < k ∧ p z.toNat = true := by
  unfold numsTo
  rw [List.mem_map]
  constructor
  · rintro ⟨i, hi, rfl⟩
    rw [List.mem_filter, List.mem_range] at hi
    exact ⟨by omega, by omega, by simpa using hi.2⟩
  · rintro ⟨h0, h1, h2⟩
    exact ⟨z.toNat, by rw [List.mem_filter, List.mem_range]; exact ⟨by omega, h2⟩, by omega⟩
theorem numsTo_ord (p : Nat → Bool) (k : Nat) : Ord (numsTo p k) := by
  unfold Ord numsTo
  rw [List.pairwise_map]
  exact ((List.pairwise_lt_range (n := k)).filter p).imp fun h => by omega
theorem numsTo_length (p : Nat → Bool) (k : Nat) : (numsTo p k).length ≤ k := by
  unfold numsTo
  rw [List.length_map]
  exact Nat.le_trans (List.length_filter_le _ _) (by simp)
theorem numsTo_congr {p q : Nat → Bool} {k : Nat} (h : ∀ i, i < k → p i = q i) : numsTo p k = numsTo q k := by
  unfold numsTo
  rw [List.filter_congr fun i hi => h i (List.mem_range.1 hi)]

/-- A matrix applied to a vector. -/
def imageV (R : List (List Int)) (x : List Int) : List Int := numsTo (fun i => oddV (nthL R i) x) R.length
def applyS (m : Mx) (x : List Int) : List Int × Int := if checkM m ≠ 0 then ([], checkM m) else if vecE m.cols x ≠ 0 then ([], vecE m.cols x) else (imageV m.rows x, 0)
theorem applyS_err {m : Mx} {x : List Int} (h : checkM m ≠ 0) : applyS m x = ([], checkM m) := by unfold applyS; rw [if_pos h]
theorem applyS_vec {m : Mx} {x : List Int} (h : checkM m = 0) (h2 : vecE m.cols x ≠ 0) : applyS m x = ([], vecE m.cols x) := by unfold applyS; rw [if_neg (by simp [h]), if_pos h2]
theorem applyS_ok {m : Mx} {x : List Int} (h : checkM m = 0) (h2 : vecE m.cols x = 0) : applyS m x = (imageV m.rows x, 0) := by unfold applyS; rw [if_neg (by simp [h]), if_neg (by simp [h2])]

/-- The rows that have a column. -/
def colTo (R : List (List Int)) (k : Nat) (c : Int) : List Int := numsTo (fun i => memB (nthL R i) c) k
def colV (R : List (List Int)) (c : Int) : List Int := colTo R R.length c
def turnedRows (n : Nat) (R : List (List Int)) : List (List Int) := (List.range n).map fun c => colV R (c : Nat)
def turned (m : Mx) : Mx := ⟨m.rows.length, turnedRows m.cols.toNat m.rows⟩
def transS (m : Mx) : Mx × Int := if checkM m ≠ 0 then (⟨0, []⟩, checkM m) else (turned m, 0)
theorem transS_err {m : Mx} (h : checkM m ≠ 0) : transS m = (⟨0, []⟩, checkM m) := by unfold transS; rw [if_pos h]
theorem transS_ok {m : Mx} (h : checkM m = 0) : transS m = (turned m, 0) := by unfold transS; rw [if_neg (by simp [h])]
theorem turnedRows_length (n : Nat) (R : List (List Int)) : (turnedRows n R).length = n := by simp [turnedRows]
theorem nthL_turned {n : Nat} {R : List (List Int)} {c : Nat} (h : c < n) : nthL (turnedRows n R) c = colV R (c : Nat) := by
  simp [nthL, turnedRows, h]
theorem turnedRows_take {n : Nat} {R : List (List Int)} {c : Nat} (h : c < n) : (turnedRows n R).take (c + 1) = (turnedRows n R).take c ++ [colV R (c : Nat)] := by
  rw [take_nthL (by rw [turnedRows_length]; exact h), nthL_turned h]

/-- The program's rows behind k rows and l elements of the next one. -/
def trLL (R : List (List Int)) (k l n : Nat) : List (List Int) := (List.range n).map fun c => colTo R k (c : Nat) ++ (if memB ((nthL R k).take l) (c : Nat) = true then [(k : Int)] else [])
theorem trLL_length (R : List (List Int)) (k l n : Nat) : (trLL R k l n).length = n := by simp [trLL]
theorem nthL_trLL {R : List (List Int)} {k l n c : Nat} (h : c < n) : nthL (trLL R k l n) c = colTo R k (c : Nat) ++ (if memB ((nthL R k).take l) (c : Nat) = true then [(k : Int)] else []) := by
  simp [nthL, trLL, h]
theorem trLL_zero (R : List (List Int)) (n : Nat) : trLL R 0 0 n = List.replicate n [] := by
  unfold trLL
  refine List.ext_getElem (by simp) fun i h1 h2 => ?_
  simp [colTo, numsTo, memB]
theorem trLL_next {R : List (List Int)} {k n : Nat} (hk : k < R.length) : trLL R k (nthL R k).length n = trLL R (k + 1) 0 n := by
  unfold trLL
  refine List.map_congr_left fun c _ => ?_
  rw [List.take_length]
  show _ = colTo R (k + 1) _ ++ _
  unfold colTo
  rw [numsTo_succ]
  simp [memB]
theorem trLL_end {R : List (List Int)} {n : Nat} : trLL R R.length 0 n = turnedRows n R := by
  unfold trLL turnedRows colV
  refine List.map_congr_left fun c _ => ?_
  simp [memB]
theorem trLL_set {R : List (List Int)} {k l n x : Nat} (ho : Ord (nthL R k)) (hl : l < (nthL R k).length) (hx : nth (nthL R k) l = (x : Int)) (hxn : x < n) :
    (trLL R k l n).set x (nthL (trLL R k l n) x ++ [(k : Int)]) = trLL R k (l + 1) n := by
  have hnot : memB ((nthL R k).take l) (x : Int) = false := by
    simp only [memB, decide_eq_false_iff_not]
    intro hm
    rw [List.mem_take_iff_getElem] at hm
    obtain ⟨j, hj, e⟩ := hm
    have h1 := List.pairwise_iff_getElem.1 ho j l (by omega) hl (by omega)
    rw [← nth_eq hl, hx] at h1
    omega
  refine List.ext_getElem (by simp [trLL]) fun i h1 h2 => ?_
  have hi : i < n := by simpa [trLL] using h2
  rw [List.getElem_set]
  split
  · rename_i he
    subst he
    rw [nthL_trLL hxn, hnot]
    simp only [trLL, List.getElem_map, List.getElem_range, Bool.false_eq_true, ↓reduceIte, List.append_nil]
    rw [if_pos]
    rw [take_nth hl, hx]
    simp [memB]
  · rename_i he
    simp only [trLL, List.getElem_map, List.getElem_range]
    congr 2
    rw [take_nth hl, hx]
    have : (i : Int) ≠ x := by omega
    simp [memB, this]
end Go.Proofs.Ytijmjliijjkcbaa
/- A matrix applied to a vector, in the program and in the reference. -/
namespace Go.Proofs.Ytijmjliijjkcbaa
set_option linter.unusedVariables false
open Go.RowKit
attribute [local go_sem ↓] Go.wp_at_zero Go.wp_at_succ

/-- What a call returns: a vector in new blocks, and an error's number. -/
def RetV (base : Nat) (x : List Int × Int) (w' : World) (r : Value) : Prop := ∃ v, r = .tuple #[v, .int .i64 x.2] ∧ Ints (fun b => base ≤ b) w' v x.1
theorem RetV.mk {base : Nat} {x : List Int × Int} {w' : World} {v : Value} {l : List Int} {e : Int} (hx : x = (l, e)) (h : Ints (fun b => base ≤ b) w' v l) : RetV base x w' (.tuple #[v, .int .i64 e]) := by
  subst hx; exact ⟨_, rfl, h⟩
theorem wf_nums (p : Nat → Bool) {k : Nat} (hk : k ≤ 1000000) : ∀ x ∈ numsTo p k, WF x := fun x hx => by
  have := mem_numsTo.1 hx
  exact WF.small (by omega)

set_option maxRecDepth 100000 in
set_option maxHeartbeats 2000000 in
theorem apply_calls {S S' : Nat → Prop} {w : World} {va vx : Value} {m : Mx} {x : List Int} (ha : MatV S w va m) (hx : Ints S' w vx x) :
    Calls Try.prog 31 #[va, vx] w (Post w (RetV w.heap.size (applyS m x))) := by
  obtain ⟨cols, ll⟩ := m
  obtain ⟨ra, rfl, la⟩ := ha
  obtain ⟨aa, acap, rfl, aad, al1, alm⟩ := la.form
  dsimp only at la al1 aad ⊢
  unfold maxLen at alm
  obtain ⟨i0, hi, hz0, hz1, hz2⟩ := info_parts info_ints
  have HQA := Lib.hid (idx_one Try.underlying22 hi hz1 aad)
  have ex := ext_alloc w (.cells #[.int .i64 cols, .slice aa ll.length acap] 24)
  have r0 := row_new w [.int .i64 cols, .slice aa ll.length acap] 24
  have KC := Lib.hid (check_calls (v := .agg #[.int .i64 cols, .slice aa ll.length acap]) (m := ⟨cols, ll⟩) ⟨_, rfl, la.ext ex⟩)
  clear hi hz0 hz1 hz2
  go_enter Try.func31, Try.ntmps31
  go_wp2_with fail
  refine KC.out.mono ?_
  rintro _ w1 ⟨_, rfl, hb1, rfl⟩
  have hx1 := ext_trans ex hb1
  have R0 := r0.ext hb1
  clear KC r0 ex
  by_cases h1 : ¬ checkM ⟨cols, ll⟩ = 0
  · have e1 : (checkM ⟨cols, ll⟩ != 0) = true := by simp [h1]
    have R := Lib.hid (applyS_err (x := x) h1)
    clear h1
    go_wp2
    go_ret2
    exact .mk hx1 (.mk R.out (.nil _ _))
  have h1 := Classical.not_not.1 h1
  have e1 : (checkM ⟨cols, ll⟩ != 0) = false := by simp [h1]
  have HM := Lib.hid (checkM_zero.1 h1)
  have H1 := Lib.hid h1
  clear h1
  obtain ⟨q0, q1⟩ := R0.two
  have KV := Lib.hid (vector_calls (hx.ext hx1) cols)
  go_wp2_with fail
  refine KV.out.mono ?_
  rintro _ w2 ⟨_, rfl, hb2, rfl⟩
  have hx2 := ext_trans hx1 hb2
  have R0 := R0.ext hb2
  clear KV hx1 hb1 hb2 q0 q1
  by_cases h2 : ¬ vecE cols x = 0
  · have e2 : (vecE cols x != 0) = true := by simp [h2]
    have R := Lib.hid (applyS_vec (m := ⟨cols, ll⟩) H1.out h2)
    clear h2
    go_wp2
    go_ret2
    exact .mk hx2 (.mk R.out (.nil _ _))
  have h2 := Classical.not_not.1 h2
  have e2 : (vecE cols x != 0) = false := by simp [h2]
  have HX := Lib.hid (vecE_zero.1 h2)
  have R := Lib.hid (applyS_ok (m := ⟨cols, ll⟩) H1.out h2)
  clear h2
  obtain ⟨q0, q1⟩ := R0.two
  have hls : ll.length ≤ 4096 := HM.out.r1
  have hz2 : w.heap.size + 1 ≤ w2.heap.size := R0.lt
  go_wp2
  go_loopw [8, 26] (fun vo i wr => ∃ k : Nat, k ≤ ll.length ∧ i = .int .i64 k ∧ Below w.heap.size w wr ∧ w.heap.size + 1 ≤ wr.heap.size ∧ wr.ownsRow (w.heap.size + 1) 3 1 vo (numsTo (fun i => oddV (nthL ll i) x) k).length ((numsTo (fun i => oddV (nthL ll i) x) k).map (Value.int .i64))) (fun _ i _ => ll.length - (intOf i).toNat)
  case atStart => exact ⟨0, Nat.zero_le _, rfl, hx2, hz2, World.ownsRow_nil _ _ _ _⟩
  case round =>
    obtain ⟨k, hk, rfl, hb, hzr, ho⟩ := hrel
    by_cases hlt : k < ll.length
    · have q := HQA.out k hlt
      obtain ⟨u, cu, iu⟩ := la.at hb hlt
      have hn1 := HM.out.rok.nth_len k
      have hn2 := small_len (by have := HM.out.c1; dsimp only at this; omega) HX.out.1 HX.out.2
      have HO := Lib.hid (odd_calls iu (hx.ext hb) (HM.out.rok.nth_ord k) HX.out.1 (by dsimp only at hn1; omega))
      have HT := Lib.hid (numsTo_succ (fun i => oddV (nthL ll i) x) k)
      have hnl := numsTo_length (fun i => oddV (nthL ll i) x) k
      obtain ⟨acc, hacc⟩ : ∃ acc, acc = numsTo (fun i => oddV (nthL ll i) x) k := ⟨_, rfl⟩
      rw [← hacc] at ho HT hnl
      clear hacc hn1 hn2
      go_wp2_with fail
      refine HO.out.mono ?_
      rintro _ w3 ⟨_, rfl, hb3, rfl⟩
      have hb3' := ext_trans hb hb3
      have ho3 := owns_ext ho hb3
      have hz3 : w.heap.size + 1 ≤ w3.heap.size := Nat.le_trans hzr hb3.size
      clear ho
      cases hod : oddV (nthL ll k) x with
      | false =>
        rw [hod, if_neg (by simp), List.append_nil] at HT
        rw [← HT.out] at ho3
        clear hod
        go_wp2
        go_roundw
        case rel => exact ⟨k + 1, by omega, by go_num, hb3', hz3, ho3⟩
        case measure => simp [intOf]; omega
      | true =>
        rw [hod, if_pos rfl] at HT
        clear hod
        have HO3 := Lib.hid ho3
        clear ho3
        go_wp2_with (at_builtin; refine wpList_push rfl _ _ 38 rfl 3 _ 8 Try.underlying38 info_int rfl (w.heap.size + 1) _ _ _ rfl HO3.out (.int .i64 (k : Int)) rfl rfl (by omega) (by omega) (by omega) ?_; intro g' c' w5 hown5 hbel5 _ _)
        have hb5 := hb3'.trans (hbel5.mono (Nat.le_succ _))
        have hz5 := Nat.le_trans hz3 hbel5.size
        have hT2 := Lib.hid (show w5.ownsRow (w.heap.size + 1) 3 1 (.slice (some ⟨g', 0, none⟩) (acc.length + 1) c') (numsTo (fun i => oddV (nthL ll i) x) (k + 1)).length ((numsTo (fun i => oddV (nthL ll i) x) (k + 1)).map (Value.int .i64)) from by rw [HT.out]; simpa using hown5)
        clear hown5 hbel5
        go_wp2
        go_roundw
        case rel => exact ⟨k + 1, by omega, by go_num, hb5, hz5, hT2.out⟩
        case measure => simp [intOf]; omega
    · obtain rfl : k = ll.length := by omega
      have hI := Ints.of_own ho (wf_nums _ (by omega))
      go_wp2
      go_ret2
      exact .mk hb (.mk R.out (hI.mono fun b hb => by omega))
end Go.Proofs.Ytijmjliijjkcbaa
/- The reference's images and transposes. -/
namespace Go.Proofs.Ytijmjliijjkcbaa
set_option linter.unusedVariables false
open Go.RowKit
attribute [local go_sem ↓] Go.wp_at_zero Go.wp_at_succ

set_option maxRecDepth 100000 in
set_option maxHeartbeats 2000000 in
theorem refImage_calls {S S' : Nat → Prop} {w : World} {va vx : Value} {m : Mx} {x : List Int} (ha : MatV S w va m) (hx : Ints S' w vx x) (hls : m.rows.length ≤ 100000) :
    Calls Try.prog 61 #[va, vx] w (Post w fun w' r => Ints (fun b => w.heap.size ≤ b) w' r (imageV m.rows x)) := by
  obtain ⟨cols, ll⟩ := m
  obtain ⟨ra, rfl, la⟩ := ha
  obtain ⟨aa, acap, rfl, aad, al1, alm⟩ := la.form
  dsimp only at la al1 aad hls ⊢
  unfold maxLen at alm
  obtain ⟨i0, hi, hz0, hz1, hz2⟩ := info_parts info_ints
  have HQA := Lib.hid (idx_one Try.underlying22 hi hz1 aad)
  have ex := ext_alloc w (.cells #[.int .i64 cols, .slice aa ll.length acap] 24)
  have R0 := row_new w [.int .i64 cols, .slice aa ll.length acap] 24
  have hz2' : w.heap.size + 1 ≤ (w.alloc (.cells #[.int .i64 cols, .slice aa ll.length acap] 24)).heap.size := by simp
  clear hi hz0 hz1 hz2
  go_enter Try.func61, Try.ntmps61
  go_wp2
  go_loopw [5, 6] (fun vo i wr => ∃ k : Nat, k ≤ ll.length ∧ i = .int .i64 k ∧ Below w.heap.size w wr ∧ w.heap.size + 1 ≤ wr.heap.size ∧ Row wr w.heap.size 24 [.int .i64 cols, .slice aa ll.length acap] ∧ wr.ownsRow (w.heap.size + 1) 3 1 vo (numsTo (fun i => oddV (nthL ll i) x) k).length ((numsTo (fun i => oddV (nthL ll i) x) k).map (Value.int .i64))) (fun _ i _ => ll.length - (intOf i).toNat)
  case atStart => exact ⟨0, Nat.zero_le _, rfl, ex, hz2', R0, World.ownsRow_nil _ _ _ _⟩
  case round =>
    obtain ⟨k, hk, rfl, hb, hzr, R0, ho⟩ := hrel
    obtain ⟨q0, q1⟩ := R0.two
    by_cases hlt : k < ll.length
    · have q := HQA.out k hlt
      obtain ⟨u, cu, iu⟩ := la.at hb hlt
      have HO := Lib.hid (refOdd_quiet iu (hx.ext hb))
      have HT := Lib.hid (numsTo_succ (fun i => oddV (nthL ll i) x) k)
      have hnl := numsTo_length (fun i => oddV (nthL ll i) x) k
      obtain ⟨acc, hacc⟩ : ∃ acc, acc = numsTo (fun i => oddV (nthL ll i) x) k := ⟨_, rfl⟩
      rw [← hacc] at ho HT hnl
      clear hacc
      go_wp2_with fail
      refine (HO.out.mono fun _ _ h => h.post).mono ?_
      rintro _ w3 ⟨_, rfl, hb3, rfl⟩
      have hb3' := ext_trans hb hb3
      have ho3 := owns_ext ho hb3
      have R3 := R0.ext hb3
      have hz3 : w.heap.size + 1 ≤ w3.heap.size := Nat.le_trans hzr hb3.size
      clear ho
      cases hod : oddV (nthL ll k) x with
      | false =>
        rw [hod, if_neg (by simp), List.append_nil] at HT
        rw [← HT.out] at ho3
        clear hod
        go_wp2
        go_roundw
        case rel => exact ⟨k + 1, by omega, by go_num, hb3', hz3, R3, ho3⟩
        case measure => simp [intOf]; omega
      | true =>
        rw [hod, if_pos rfl] at HT
        clear hod
        have HO3 := Lib.hid ho3
        clear ho3
        go_wp2_with (at_builtin; refine wpList_push rfl _ _ 38 rfl 3 _ 8 Try.underlying38 info_int rfl (w.heap.size + 1) _ _ _ rfl HO3.out (.int .i64 (k : Int)) rfl rfl (by omega) (by omega) (by omega) ?_; intro g' c' w5 hown5 hbel5 _ _)
        have hb5 := hb3'.trans (hbel5.mono (Nat.le_succ _))
        have hz5 := Nat.le_trans hz3 hbel5.size
        have R5 := R3.agree (S := fun b => b = w.heap.size) (.of_below hbel5 fun b hb _ => by omega) rfl
        have hT2 := Lib.hid (show w5.ownsRow (w.heap.size + 1) 3 1 (.slice (some ⟨g', 0, none⟩) (acc.length + 1) c') (numsTo (fun i => oddV (nthL ll i) x) (k + 1)).length ((numsTo (fun i => oddV (nthL ll i) x) (k + 1)).map (Value.int .i64)) from by rw [HT.out]; simpa using hown5)
        clear hown5 hbel5
        go_wp2
        go_roundw
        case rel => exact ⟨k + 1, by omega, by go_num, hb5, hz5, R5, hT2.out⟩
        case measure => simp [intOf]; omega
    · obtain rfl : k = ll.length := by omega
      have hI := Ints.of_own ho (wf_nums _ (by omega))
      go_wp2
      go_ret
      exact .mk hb (hI.mono fun b hb => by omega)

set_option maxRecDepth 100000 in
set_option maxHeartbeats 1000000 in
theorem refApply_calls {S S' : Nat → Prop} {w : World} {va vx : Value} {m : Mx} {x : List Int} (ha : MatV S w va m) (hx : Ints S' w vx x) :
    Calls Try.prog 39 #[va, vx] w (Post w (RetV w.heap.size (applyS m x))) := by
  obtain ⟨cols, ll⟩ := m
  obtain ⟨ra, rfl, la⟩ := ha
  obtain ⟨aa, acap, rfl, aad, al1, alm⟩ := la.form
  dsimp only at la al1 aad ⊢
  have ex := ext_alloc w (.cells #[.int .i64 cols, .slice aa ll.length acap] 24)
  have r0 := row_new w [.int .i64 cols, .slice aa ll.length acap] 24
  have KC := Lib.hid (refCheck_calls (v := .agg #[.int .i64 cols, .slice aa ll.length acap]) (m := ⟨cols, ll⟩) ⟨_, rfl, la.ext ex⟩)
  go_enter Try.func39, Try.ntmps39
  go_wp2_with fail
  refine KC.out.mono ?_
  rintro _ w1 ⟨_, rfl, hb1, rfl⟩
  have hx1 := ext_trans ex hb1
  have R0 := r0.ext hb1
  clear KC r0 ex
  by_cases h1 : ¬ checkM ⟨cols, ll⟩ = 0
  · have e1 : (checkM ⟨cols, ll⟩ != 0) = true := by simp [h1]
    have R := Lib.hid (applyS_err (x := x) h1)
    clear h1
    go_wp2
    go_ret2
    exact .mk hx1 (.mk R.out (.nil _ _))
  have h1 := Classical.not_not.1 h1
  have e1 : (checkM ⟨cols, ll⟩ != 0) = false := by simp [h1]
  have HM := Lib.hid (checkM_zero.1 h1)
  have H1 := Lib.hid h1
  clear h1
  obtain ⟨q0, q1⟩ := R0.two
  have KV := Lib.hid (refVector_calls (hx.ext hx1) cols)
  go_wp2_with fail
  refine KV.out.mono ?_
  rintro _ w2 ⟨_, rfl, hb2, rfl⟩
  have hx2 := ext_trans hx1 hb2
  have R0 := R0.ext hb2
  clear KV hx1 hb1 hb2 q0 q1
  by_cases h2 : ¬ vecE cols x = 0
  · have e2 : (vecE cols x != 0) = true := by simp [h2]
    have R := Lib.hid (applyS_vec (m := ⟨cols, ll⟩) H1.out h2)
    clear h2
    go_wp2
    go_ret2
    exact .mk hx2 (.mk R.out (.nil _ _))
  have h2 := Classical.not_not.1 h2
  have e2 : (vecE cols x != 0) = false := by simp [h2]
  have R := Lib.hid (applyS_ok (m := ⟨cols, ll⟩) H1.out h2)
  clear h2
  obtain ⟨q0, q1⟩ := R0.two
  have KI := Lib.hid (refImage_calls (va := .agg #[.int .i64 cols, .slice aa ll.length acap]) (m := ⟨cols, ll⟩) (w := w2) ⟨_, rfl, la.ext hx2⟩ (hx.ext hx2) (by have := HM.out.r1; dsimp only at this ⊢; omega))
  go_wp2_with fail
  refine KI.out.mono ?_
  rintro _ w3 ⟨v3, rfl, hb3, iv⟩
  have hbs := hx2.size
  go_wp2
  go_ret2
  exact .mk (ext_trans hx2 hb3) (.mk R.out (iv.mono fun b hb => by omega))

/-- The loop over the rows, for one column. -/
theorem wf_col (R : List (List Int)) (c : Int) {k : Nat} (hk : k ≤ 1000000) : ∀ x ∈ colTo R k c, WF x := wf_nums _ hk
theorem colTo_succ (R : List (List Int)) (k : Nat) (c : Int) : colTo R (k + 1) c = colTo R k c ++ (if memB (nthL R k) c = true then [(k : Int)] else []) := numsTo_succ _ k
theorem colTo_length (R : List (List Int)) (k : Nat) (c : Int) : (colTo R k c).length ≤ k := numsTo_length _ k
end Go.Proofs.Ytijmjliijjkcbaa
/- The reference's transpose. -/
namespace Go.Proofs.Ytijmjliijjkcbaa
set_option linter.unusedVariables false
open Go.RowKit
attribute [local go_sem ↓] Go.wp_at_zero Go.wp_at_succ

/-- What a call returns: a matrix in new blocks. -/
def RetX (base : Nat) (x : Mx) (w' : World) (r : Value) : Prop := MatV (fun b => base ≤ b) w' r x

set_option maxRecDepth 100000 in
set_option maxHeartbeats 4000000 in
theorem refTurned_calls {S : Nat → Prop} {w : World} {va : Value} {m : Mx} (ha : MatV S w va m) (ok : MOk m) :
    Calls Try.prog 60 #[va] w (Post w (RetX w.heap.size (turned m))) := by
  obtain ⟨cols, ll⟩ := m
  obtain ⟨ra, rfl, la⟩ := ha
  obtain ⟨aa, acap, rfl, aad, al1, alm⟩ := la.form
  dsimp only at la al1 aad ⊢
  unfold maxLen at alm
  have hls : ll.length ≤ 4096 := ok.r1
  have hc0 : 0 ≤ cols := ok.c0
  have hc1 : cols ≤ 4096 := ok.c1
  obtain ⟨n, hn⟩ : ∃ n : Nat, cols = (n : Int) := ⟨cols.toNat, by omega⟩
  subst hn
  obtain ⟨i0, hi, hz0, hz1, hz2⟩ := info_parts info_ints
  have HQA := Lib.hid (idx_one Try.underlying22 hi hz1 aad)
  have HTU : Hid (turned ⟨(n : Int), ll⟩ = ⟨ll.length, turnedRows n ll⟩) := Lib.hid (by unfold turned; simp)
  have ex : Below w.heap.size w (((w.alloc (.cells #[.int .i64 n, .slice aa ll.length acap] 24)).alloc (.cells #[.int .i64 0, .slice none 0 0] 24)).alloc (.cells #[.int .i64 ll.length, .slice none 0 0] 24)) := ext_alloc' (ext_alloc' (ext_alloc w _) _) _
  have r0 := ((row_new w [.int .i64 n, .slice aa ll.length acap] 24).alloc (.cells #[.int .i64 0, .slice none 0 0] 24)).alloc (.cells #[.int .i64 ll.length, .slice none 0 0] 24)
  have r1 := (row_new (w.alloc (.cells #[.int .i64 n, .slice aa ll.length acap] 24)) [.int .i64 0, .slice none 0 0] 24).alloc (.cells #[.int .i64 ll.length, .slice none 0 0] 24)
  have r2 := row_new ((w.alloc (.cells #[.int .i64 n, .slice aa ll.length acap] 24)).alloc (.cells #[.int .i64 0, .slice none 0 0] 24)) [.int .i64 ll.length, .slice none 0 0] 24
  simp only [World.size_alloc] at r1 r2
  have hzz : w.heap.size + 1 + 1 + 1 ≤ (((w.alloc (.cells #[.int .i64 n, .slice aa ll.length acap] 24)).alloc (.cells #[.int .i64 0, .slice none 0 0] 24)).alloc (.cells #[.int .i64 ll.length, .slice none 0 0] 24)).heap.size := by simp
  clear hi hz0 hz1 hz2
  go_enter Try.func60, Try.ntmps60
  go_wp2
  go_loopw [4, 5, 6] (fun ic _ _ wr => ∃ (k : Nat) (rv : Value) (vs : List Value), k ≤ n ∧ ic = .int .i64 k ∧ Below w.heap.size w wr ∧ w.heap.size + 1 + 1 + 1 ≤ wr.heap.size ∧ Row wr w.heap.size 24 [.int .i64 n, .slice aa ll.length acap] ∧ Row wr (w.heap.size + 1) 24 [.int .i64 0, .slice none 0 0] ∧
      Row wr (w.heap.size + 1 + 1) 24 [.int .i64 ll.length, rv] ∧ OwnList 38 (w.heap.size + 1 + 1 + 1) wr rv vs ((turnedRows n ll).take k)) (fun ic _ _ _ => n - (intOf ic).toNat)
  case atStart => exact ⟨0, _, _, Nat.zero_le _, rfl, ex, hzz, r0, r1, r2, .nil _ _ _⟩
  case round =>
    obtain ⟨c, rv, vs, hc, rfl, hb, hzr, R0, R1, R2, hO⟩ := hrel
    obtain ⟨wo, hwo⟩ : ∃ wo : World, wo = wr := ⟨_, rfl⟩
    rw [← hwo] at hb hzr R0 R1 R2 hO ⊢
    clear hwo
    obtain ⟨q00, q01⟩ := R0.two
    obtain ⟨q20, q21⟩ := R2.two
    by_cases hlt : c < n
    · have hO' := Lib.hid hO
      clear hO
      go_wp2
      go_loopw [5, 6] (fun vo i wi => ∃ k : Nat, k ≤ ll.length ∧ i = .int .i64 k ∧ Below wo.heap.size wo wi ∧ wi.ownsRow wo.heap.size 3 1 vo (colTo ll k (c : Nat)).length ((colTo ll k (c : Nat)).map (Value.int .i64))) (fun _ i _ => ll.length - (intOf i).toNat)
      case atStart => exact ⟨0, Nat.zero_le _, rfl, .refl _ _, World.ownsRow_nil _ _ _ _⟩
      case round =>
        obtain ⟨k, hk, rfl, hbi, ho⟩ := hrel
        have R0i := R0.ext hbi
        obtain ⟨p00, p01⟩ := R0i.two
        have hbw := ext_trans hb hbi
        by_cases hlk : k < ll.length
        · have q := HQA.out k hlk
          obtain ⟨u, cu, iu⟩ := la.at hbw hlk
          have HH := Lib.hid (refHas_quiet iu (c : Int))
          have HT := Lib.hid (colTo_succ ll k (c : Int))
          have hnl := colTo_length ll k (c : Int)
          obtain ⟨acc, hacc⟩ : ∃ acc, acc = colTo ll k (c : Int) := ⟨_, rfl⟩
          rw [← hacc] at ho HT hnl
          clear hacc
          go_wp2_with fail
          refine (HH.out.mono fun _ _ h => h.post).mono ?_
          rintro _ w3 ⟨_, rfl, hb3, rfl⟩
          have hb3' := ext_trans hbi hb3
          have ho3 := owns_ext ho hb3
          have hz3 := hb3'.size
          clear ho
          cases hod : memB (nthL ll k) (c : Int) with
          | false =>
            rw [hod, if_neg (by simp), List.append_nil] at HT
            rw [← HT.out] at ho3
            clear hod
            go_wp2
            go_roundw
            case rel => exact ⟨k + 1, by omega, by go_num, hb3', ho3⟩
            case measure => simp [intOf]; omega
          | true =>
            rw [hod, if_pos rfl] at HT
            clear hod
            have HO3 := Lib.hid ho3
            clear ho3
            go_wp2_with (at_builtin; refine wpList_push rfl _ _ 38 rfl 3 _ 8 Try.underlying38 info_int rfl wo.heap.size _ _ _ rfl HO3.out (.int .i64 (k : Int)) rfl rfl (by omega) (by omega) hz3 ?_; intro g' c' w5 hown5 hbel5 _ _)
            have hb5 := hb3'.trans hbel5
            have hT2 := Lib.hid (show w5.ownsRow wo.heap.size 3 1 (.slice (some ⟨g', 0, none⟩) (acc.length + 1) c') (colTo ll (k + 1) (c : Int)).length ((colTo ll (k + 1) (c : Int)).map (Value.int .i64)) from by rw [HT.out]; simpa using hown5)
            clear hown5 hbel5
            go_wp2
            go_roundw
            case rel => exact ⟨k + 1, by omega, by go_num, hb5, hT2.out⟩
            case measure => simp [intOf]; omega
        · obtain rfl : k = ll.length := by omega
          have hI := Ints.of_own ho (wf_col ll _ (by omega))
          obtain ⟨a5, c5, rfl, _⟩ := hI.form
          have HI := Lib.hid hI
          have HT := Lib.hid (turnedRows_take (R := ll) hlt)
          obtain ⟨x, hx⟩ : ∃ x, x = colTo ll ll.length (c : Int) := ⟨_, rfl⟩
          rw [← hx] at HI ⊢
          have HX := Lib.hid hx
          obtain ⟨tl, htl⟩ : ∃ tl, tl = (turnedRows n ll).take c := ⟨_, rfl⟩
          rw [← htl] at hO' HT
          have htn : tl.length ≤ 4096 := by rw [htl, List.length_take]; omega
          have R2i := R2.ext hbi
          have ORW := Lib.hid (hO'.out.ext hbi).row
          have hzi := hbi.size
          have HNE := Lib.hid (fun (k : Nat) (hk : rv.ownBlock = some k) => (hO'.out.row.lt k hk))
          clear hx htl ho hI
          obtain ⟨p20, p21⟩ := R2i.two
          go_wp2_with (at_builtin; refine wpList_push rfl _ _ 22 rfl 38 _ 24 Try.underlying22 info_ints rfl (w.heap.size + 1 + 1 + 1) _ _ _ rfl ORW.out (.slice a5 x.length c5) rfl rfl (by omega) (by omega) (by omega) ?_; intro g6 cp6 w6 hown6 hbel6 hag6 hat6; have R6 := R2i.agree (S := fun b => b = w.heap.size + 1 + 1) (hag6 _ fun k hk e => by have := (HNE.out k hk).1; omega) rfl; have f6 := R6.free 1; have c6 := R6.cell (j := 1) rfl)
          have HP := out_push0 (T := 24) (OB := w.heap.size + 1 + 1) (B := w.heap.size + 1 + 1 + 1) (by omega) hzr R2 hO'.out hbi HI.out hown6 hag6 hbel6 hat6
          obtain ⟨P3, PO, PA, PB⟩ := HP
          have PB0 := PB w.heap.size (by omega)
          have P0 := R0.agreeN PA (by omega) (by omega)
          have P1 := R1.agreeN PA (by omega) (by omega)
          have hsz := PA.size
          have PO2 := Lib.hid PO
          rw [show tl ++ [x] = (turnedRows n ll).take (c + 1) from by rw [HT.out, HX.out]; rfl] at PO2
          clear PA PB PO hag6 hown6 hbel6
          go_wp2
          go_roundw
          case rel => exact ⟨c + 1, _, _, by omega, by go_num, hb.trans PB0, by omega, P0, P1, P3, PO2.out⟩
          case measure => simp [intOf]; omega
    · have HE := Lib.hid (show (turnedRows n ll).take c = turnedRows n ll from List.take_of_length_le (by rw [turnedRows_length]; omega))
      have hL := hO.lists
      rw [HE.out] at hL
      obtain ⟨a9, c9, rfl, _⟩ := hL.form
      obtain ⟨q10, q11⟩ := R1.two
      have f20 := R1.free 0
      have f21 := R1.free 1
      go_wp2
      refine bodyPost_ret (v := .agg #[.int .i64 ll.length, .slice a9 (turnedRows n ll).length c9]) (by simp [results, Try.results60, go_sem, q10, q11]) rfl ?_
      refine .mk (set2_below _ _ hb (by omega)) ?_
      rw [HTU.out]
      exact ⟨_, rfl, (hL.agree (set2_agree _ _ (by omega))).mono fun b hb => by omega⟩

set_option maxRecDepth 100000 in
set_option maxHeartbeats 1000000 in
theorem refTranspose_calls {S : Nat → Prop} {w : World} {va : Value} {m : Mx} (ha : MatV S w va m) :
    Calls Try.prog 38 #[va] w (Post w (RetM w.heap.size (transS m))) := by
  obtain ⟨cols, ll⟩ := m
  obtain ⟨ra, rfl, la⟩ := ha
  obtain ⟨aa, acap, rfl, aad, al1, alm⟩ := la.form
  dsimp only at la al1 aad ⊢
  have ex : Below w.heap.size w ((w.alloc (.cells #[.int .i64 cols, .slice aa ll.length acap] 24)).alloc (.cells #[.int .i64 0, .slice none 0 0] 24)) := ext_alloc' (ext_alloc w _) _
  have r0 := (row_new w [.int .i64 cols, .slice aa ll.length acap] 24).alloc (.cells #[.int .i64 0, .slice none 0 0] 24)
  have r1 := row_new (w.alloc (.cells #[.int .i64 cols, .slice aa ll.length acap] 24)) [.int .i64 0, .slice none 0 0] 24
  simp only [World.size_alloc] at r1
  have KC := Lib.hid (refCheck_calls (v := .agg #[.int .i64 cols, .slice aa ll.length acap]) (m := ⟨cols, ll⟩) ⟨_, rfl, la.ext ex⟩)
  go_enter Try.func38, Try.ntmps38
  go_wp2_with fail
  refine KC.out.mono ?_
  rintro _ w1 ⟨_, rfl, hb1, rfl⟩
  have hx1 := ext_trans ex hb1
  have R0 := r0.ext hb1
  have R1 := r1.ext hb1
  clear KC r0 r1 ex
  obtain ⟨q10, q11⟩ := R1.two
  have f10 := R1.free 0
  have f11 := R1.free 1
  have hz1w := R1.lt
  by_cases h1 : ¬ checkM ⟨cols, ll⟩ = 0
  · have e1 : (checkM ⟨cols, ll⟩ != 0) = true := by simp [h1]
    have R := Lib.hid (transS_err h1)
    clear h1
    go_wp2
    refine bodyPost_ret (v := .tuple #[.agg #[.int .i64 0, .slice none 0 0], .int .i64 (checkM ⟨cols, ll⟩)]) (by simp [results, Try.results38, go_sem, q10, q11]) rfl ?_
    exact .mk (set2_below _ _ hx1 (by omega)) (.none R.out)
  have h1 := Classical.not_not.1 h1
  have e1 : (checkM ⟨cols, ll⟩ != 0) = false := by simp [h1]
  have R := Lib.hid (transS_ok h1)
  obtain ⟨q0, q1⟩ := R0.two
  have KT := Lib.hid (refTurned_calls (va := .agg #[.int .i64 cols, .slice aa ll.length acap]) (m := ⟨cols, ll⟩) (w := w1) ⟨_, rfl, la.ext hx1⟩ (checkM_zero.1 h1))
  clear h1
  go_wp2_with fail
  refine KT.out.mono ?_
  rintro _ w2 ⟨v2, rfl, hb2, rv, rfl, hl2⟩
  obtain ⟨a2, c2, rfl, _⟩ := hl2.form
  have R1 := R1.ext hb2
  obtain ⟨q10, q11⟩ := R1.two
  have f10 := R1.free 0
  have f11 := R1.free 1
  have hbs := hx1.size
  go_wp2
  refine bodyPost_ret (v := .tuple #[.agg #[.int .i64 (turned ⟨cols, ll⟩).cols, .slice a2 (turned ⟨cols, ll⟩).rows.length c2], .int .i64 0]) (by simp [results, Try.results38, go_sem, q10, q11]) rfl ?_
  exact .mk (set2_below _ _ (ext_trans hx1 hb2) (by omega)) (.mk R.out ((hl2.agree (set2_agree _ _ (by omega))).mono fun b hb => by omega))
end Go.Proofs.Ytijmjliijjkcbaa
