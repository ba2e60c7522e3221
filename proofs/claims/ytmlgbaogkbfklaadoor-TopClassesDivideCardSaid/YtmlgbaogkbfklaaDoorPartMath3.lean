/- Partitions as lists of labels: their numbers of classes, and their classes. -/
import Derived.Test.YtmlgbaogkbfklaaDoorLists
import Derived.Test.YtmlgbaogkbfklaaDoorPart
namespace Go.Proofs.YtmlgbaogkbfklaaDoor
set_option linter.unusedVariables false

/-- The number of classes of a well-formed partition. -/
def numS (l : List Int) : Int := l.foldl (fun n x => max n (x + 1)) 0
theorem numS_snoc (l : List Int) (x : Int) : numS (l ++ [x]) = max (numS l) (x + 1) := by simp [numS, List.foldl_append]
theorem numS_nonneg (l : List Int) : 0 ≤ numS l := by
  have : ∀ (l : List Int) (n : Int), n ≤ l.foldl (fun n x => max n (x + 1)) n := by
    intro l
    induction l with
    | nil => intro n; exact Int.le_refl _
    | cons x l ih => intro n; exact Int.le_trans (Int.le_max_left _ _) (ih _)
  exact this l 0

/-- Each label is at most the number of classes before it. -/
def Good (l : List Int) : Prop := l.length ≤ 65536 ∧ ∀ i, i < l.length → 0 ≤ nth l i ∧ nth l i ≤ numS (l.take i)

theorem good_aux (l : List Int) : ∀ n k, n = l.length - k → k ≤ l.length → (checkTo (l.drop k) (numS (l.take k)) = 0 ↔ ∀ i, k ≤ i → i < l.length → 0 ≤ nth l i ∧ nth l i ≤ numS (l.take i)) := by
  intro n
  induction n with
  | zero =>
    intro k hn hk
    have hk' : k = l.length := by omega
    subst hk'
    simp only [List.drop_length, checkTo, true_iff]
    intro i h1 h2; omega
  | succ n ih =>
    intro k hn hk
    have hlt : k < l.length := by omega
    have ihk := ih (k + 1) (by omega) (by omega)
    rw [drop_nth hlt, checkTo]
    rw [take_nth hlt, numS_snoc] at ihk
    constructor
    · intro h
      split at h
      · cases h
      · split at h
        · cases h
        · have hm : (if nth l k = numS (l.take k) then numS (l.take k) + 1 else numS (l.take k)) = max (numS (l.take k)) (nth l k + 1) := by
            split <;> omega
          have h' : checkTo (l.drop (k + 1)) (max (numS (l.take k)) (nth l k + 1)) = 0 := by
            rw [← hm]
            split at h <;> (rename_i hx; simpa [hx] using h)
          intro i h1 h2
          by_cases hik : i = k
          · subst hik; omega
          · exact ihk.1 h' i (by omega) h2
    · intro h
      have hk0 := h k (Nat.le_refl _) hlt
      rw [if_neg (by omega), if_neg (by omega)]
      have hm : (if nth l k = numS (l.take k) then numS (l.take k) + 1 else numS (l.take k)) = max (numS (l.take k)) (nth l k + 1) := by
        split <;> omega
      have h' := ihk.2 (fun i h1 h2 => h i (by omega) h2)
      rw [← hm] at h'
      split <;> (rename_i hx; simpa [hx] using h')

theorem checkS_good {l : List Int} : checkS l = 0 ↔ Good l := by
  have := good_aux l l.length 0 (by omega) (by omega)
  simp only [List.drop_zero, List.take_zero] at this
  unfold checkS Good
  split
  · constructor
    · intro h; cases h
    · intro h; omega
  · rw [show (0 : Int) = numS [] from rfl] at *
    rw [this]
    constructor
    · intro h; exact ⟨by omega, fun i hi => h i (by omega) hi⟩
    · intro h i _ hi; exact h.2 i hi

/-- The elements with a label. -/
def classS (l : List Int) (k : Int) : List Int := ((List.range l.length).filter fun i => nth l i == k).map fun i : Nat => (i : Int)
theorem nth_snoc_old {l : List Int} {x : Int} {i : Nat} (h : i < l.length) : nth (l ++ [x]) i = nth l i := by simp [nth, List.getElem?_append_left h]
theorem nth_snoc_new {l : List Int} {x : Int} : nth (l ++ [x]) l.length = x := by simp [nth]
theorem classS_snoc (l : List Int) (x k : Int) : classS (l ++ [x]) k = if x = k then classS l k ++ [(l.length : Int)] else classS l k := by
  unfold classS
  have e : (List.range (l ++ [x]).length).filter (fun i => nth (l ++ [x]) i == k) = (List.range l.length).filter (fun i => nth l i == k) ++ (if x = k then [l.length] else []) := by
    rw [List.length_append, List.length_singleton, List.range_succ, List.filter_append]
    congr 1
    · apply List.filter_congr
      intro i hi
      rw [nth_snoc_old (by simpa using hi)]
    · have := nth_snoc_new (l := l) (x := x)
      by_cases h : x = k
      · subst h; simp [this]
      · simp [this, h]
  rw [e, List.map_append]
  split <;> simp

/-- The classes. -/
def classesS (l : List Int) : List (List Int) := (List.range (numS l).toNat).map fun k : Nat => classS l (k : Int)
theorem length_classesS (l : List Int) : (classesS l).length = (numS l).toNat := by simp [classesS]
theorem nthL_classesS {l : List Int} {k : Nat} (h : k < (numS l).toNat) : nthL (classesS l) k = classS l k := by
  rw [nthL_eq (by rw [length_classesS]; exact h)]
  simp [classesS]

theorem ext_nthL {a b : List (List Int)} (h : a.length = b.length) (hh : ∀ k, k < a.length → nthL a k = nthL b k) : a = b := by
  apply List.ext_getElem h
  intro k h1 h2
  have := hh k h1
  rwa [nthL_eq h1, nthL_eq h2] at this

theorem nthL_set_ne {ll : List (List Int)} {x j : Nat} {y : List Int} (h : j ≠ x) : nthL (ll.set x y) j = nthL ll j := by simp [nthL, List.getElem?_set_ne (fun e : x = j => h e.symm)]
theorem nthL_set_eq {ll : List (List Int)} {x : Nat} {y : List Int} (h : x < ll.length) : nthL (ll.set x y) x = y := by simp [nthL, h]

theorem classesS_old {l : List Int} {x : Int} (h0 : 0 ≤ x) (h : x < numS l) : classesS (l ++ [x]) = (classesS l).set x.toNat (nthL (classesS l) x.toNat ++ [(l.length : Int)]) := by
  have hn : numS (l ++ [x]) = numS l := by rw [numS_snoc]; omega
  apply ext_nthL
  · simp [hn, length_classesS]
  · intro k hk
    rw [length_classesS, hn] at hk
    rw [nthL_classesS (by rw [hn]; exact hk), classS_snoc]
    by_cases e : k = x.toNat
    · subst e
      rw [nthL_set_eq (by rw [length_classesS]; exact hk), if_pos (by omega), nthL_classesS hk]
    · rw [nthL_set_ne e, if_neg (by omega), nthL_classesS hk]

theorem classS_high {l : List Int} {k : Int} (h : numS l ≤ k) : classS l k = [] := by
  unfold classS
  rw [List.map_eq_nil_iff, List.filter_eq_nil_iff]
  intro i hi
  have : ∀ (l : List Int) (x : Int), x ∈ l → x < numS l := by
    intro l
    have key : ∀ (l : List Int) (n x : Int), (x ∈ l ∨ x < n) → x < l.foldl (fun n x => max n (x + 1)) n := by
      intro l
      induction l with
      | nil => intro n x h; simpa using h
      | cons y l ih =>
        intro n x h
        refine ih _ x ?_
        show _ ∨ x < max n (y + 1)
        rcases h with h | h
        · rcases List.mem_cons.1 h with rfl | h
          · right; omega
          · left; exact h
        · right; omega
    intro x hx
    exact key l 0 x (.inl hx)
  have := this l (nth l i) (nth_mem (by simpa using hi))
  simp; omega

theorem classesS_new {l : List Int} {x : Int} (h : x = numS l) : classesS (l ++ [x]) = (classesS l ++ [[]]).set x.toNat ([] ++ [(l.length : Int)]) := by
  have h0 := numS_nonneg l
  have hn : (numS (l ++ [x])).toNat = (numS l).toNat + 1 := by rw [numS_snoc]; omega
  apply ext_nthL
  · simp [hn, length_classesS]
  · intro k hk
    rw [length_classesS, hn] at hk
    rw [nthL_classesS (by rw [hn]; exact hk), classS_snoc]
    by_cases e : k = x.toNat
    · subst e
      rw [nthL_set_eq (by rw [List.length_append, length_classesS]; simp; omega), if_pos (by omega), classS_high (by omega)]
    · rw [nthL_set_ne e, if_neg (by omega)]
      have hk' : k < (numS l).toNat := by omega
      have : nthL (classesS l ++ [[]]) k = nthL (classesS l) k := by simp [nthL, List.getElem?_append_left (show k < (classesS l).length by rw [length_classesS]; exact hk')]
      rw [this, nthL_classesS hk']

theorem numS_le (l : List Int) (hg : ∀ i, i < l.length → 0 ≤ nth l i ∧ nth l i ≤ numS (l.take i)) : ∀ k, k ≤ l.length → numS (l.take k) ≤ k := by
  intro k
  induction k with
  | zero => intro _; simp [numS]
  | succ k ih =>
    intro hk
    have := ih (by omega)
    have := hg k (by omega)
    rw [take_nth (by omega), numS_snoc]
    omega

theorem classesS_wf {l : List Int} (h : l.length ≤ 65536) : ∀ c ∈ classesS l, ∀ x ∈ c, WF x := by
  intro c hc x hx
  obtain ⟨k, _, rfl⟩ := List.mem_map.1 hc
  unfold classS at hx
  obtain ⟨i, hi, rfl⟩ := List.mem_map.1 hx
  have := (List.mem_filter.1 hi).1
  simp at this
  exact WF.small (by omega)

end Go.Proofs.YtmlgbaogkbfklaaDoor
