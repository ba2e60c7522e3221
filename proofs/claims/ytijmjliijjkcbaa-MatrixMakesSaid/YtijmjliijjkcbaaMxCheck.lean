/- Errors of vectors and matrices: plain data. -/
import Derived.Test.YtijmjliijjkcbaaMxVec
import Derived.Test.YtijmjliijjkcbaaLists
namespace Go.Proofs.Ytijmjliijjkcbaa
set_option linter.unusedVariables false

/-- The error at one place of a vector. -/
def vstep (n : Int) (l : List Int) (k : Nat) : Int := if nth l k < 0 ∨ n ≤ nth l k then 2 else if 0 < k ∧ nth l k ≤ nth l (k - 1) then 14 else 0
def vfrom (n : Int) (l : List Int) (k : Nat) : Int := if k < l.length then (if vstep n l k ≠ 0 then vstep n l k else vfrom n l (k + 1)) else 0
termination_by l.length - k
def vecE (n : Int) (l : List Int) : Int := vfrom n l 0
theorem vfrom_end {n : Int} {l : List Int} {k : Nat} (h : l.length ≤ k) : vfrom n l k = 0 := by rw [vfrom, if_neg (by omega)]
theorem vfrom_err {n : Int} {l : List Int} {k : Nat} (h : k < l.length) {x : Int} (hx : vstep n l k = x) (h0 : x ≠ 0) : vfrom n l k = x := by rw [vfrom, if_pos h, hx, if_pos h0]
theorem vfrom_next {n : Int} {l : List Int} {k : Nat} (h : k < l.length) (hx : vstep n l k = 0) : vfrom n l k = vfrom n l (k + 1) := by rw [vfrom, if_pos h, hx]; simp

theorem vfrom_zero {n : Int} {l : List Int} : ∀ m k, l.length - k = m → (vfrom n l k = 0 ↔ ∀ j, k ≤ j → j < l.length → 0 ≤ nth l j ∧ nth l j < n ∧ (0 < j → nth l (j - 1) < nth l j)) := by
  intro m
  induction m with
  | zero =>
    intro k hk
    rw [vfrom_end (by omega)]
    exact ⟨fun _ j h1 h2 => by omega, fun _ => rfl⟩
  | succ m ih =>
    intro k hk
    have hlt : k < l.length := by omega
    have ih := ih (k + 1) (by omega)
    by_cases hs : vstep n l k = 0
    · rw [vfrom_next hlt hs, ih]
      have hk0 : 0 ≤ nth l k ∧ nth l k < n ∧ (0 < k → nth l (k - 1) < nth l k) := by
        unfold vstep at hs
        split at hs
        · omega
        · split at hs
          · omega
          · rename_i h1 h2
            exact ⟨by omega, by omega, fun h => by omega⟩
      constructor
      · intro h j h1 h2
        rcases Nat.lt_or_ge k j with h3 | h3
        · exact h j (by omega) h2
        · obtain rfl : j = k := by omega
          exact hk0
      · intro h j h1 h2
        exact h j (by omega) h2
    · rw [vfrom_err hlt rfl hs]
      refine ⟨fun h => absurd h hs, fun h => ?_⟩
      have := h k (Nat.le_refl _) hlt
      unfold vstep
      rw [if_neg (by omega), if_neg (by omega)]
theorem vecE_zero {n : Int} {l : List Int} : vecE n l = 0 ↔ Ord l ∧ ∀ x ∈ l, 0 ≤ x ∧ x < n := by
  unfold vecE
  rw [vfrom_zero _ 0 rfl]
  constructor
  · intro h
    refine ⟨?_, fun x hx => ?_⟩
    · unfold Ord
      rw [List.pairwise_iff_getElem]
      intro i j hi hj hij
      have key : ∀ d, i + d + 1 < l.length → nth l i < nth l (i + d + 1) := by
        intro d
        induction d with
        | zero => intro h1; have := (h (i + 1) (by omega) h1).2.2 (by omega); simpa using this
        | succ d ih =>
          intro h1
          have h2 := ih (by omega)
          have h3 := (h (i + (d + 1) + 1) (by omega) h1).2.2 (by omega)
          have e : i + (d + 1) + 1 - 1 = i + d + 1 := by omega
          rw [e] at h3
          omega
      have := key (j - i - 1) (by omega)
      have e : i + (j - i - 1) + 1 = j := by omega
      rw [e, nth_eq hi, nth_eq hj] at this
      exact this
    · obtain ⟨j, hj, rfl⟩ := List.getElem_of_mem hx
      have := h j (by omega) hj
      rw [← nth_eq hj]
      exact ⟨this.1, this.2.1⟩
  · rintro ⟨ho, hr⟩ j _ hj
    have hm := hr _ (nth_mem hj)
    refine ⟨hm.1, hm.2, fun h0 => ?_⟩
    rw [nth_eq hj, nth_eq (show j - 1 < l.length by omega)]
    exact List.pairwise_iff_getElem.1 ho (j - 1) j (by omega) hj (by omega)

/-- A matrix: its number of columns, its rows. -/
structure Mx where
  cols : Int
  rows : List (List Int)
def rfrom (n : Int) (ll : List (List Int)) (k : Nat) : Int := if k < ll.length then (if vecE n (nthL ll k) ≠ 0 then vecE n (nthL ll k) else rfrom n ll (k + 1)) else 0
termination_by ll.length - k
def checkM (m : Mx) : Int := if m.cols < 0 ∨ 4096 < m.cols then 2 else if 4096 < m.rows.length then 5 else rfrom m.cols m.rows 0
theorem rfrom_end {n : Int} {l : List (List Int)} {k : Nat} (h : l.length ≤ k) : rfrom n l k = 0 := by rw [rfrom, if_neg (by omega)]
theorem rfrom_err {n : Int} {l : List (List Int)} {k : Nat} (h : k < l.length) {x : Int} (hx : vecE n (nthL l k) = x) (h0 : x ≠ 0) : rfrom n l k = x := by rw [rfrom, if_pos h, hx, if_pos h0]
theorem rfrom_next {n : Int} {l : List (List Int)} {k : Nat} (h : k < l.length) (hx : vecE n (nthL l k) = 0) : rfrom n l k = rfrom n l (k + 1) := by rw [rfrom, if_pos h, hx]; simp
theorem rfrom_zero {n : Int} {l : List (List Int)} : ∀ m k, l.length - k = m → (rfrom n l k = 0 ↔ ∀ j, k ≤ j → j < l.length → vecE n (nthL l j) = 0) := by
  intro m
  induction m with
  | zero => intro k hk; rw [rfrom_end (by omega)]; exact ⟨fun _ j h1 h2 => by omega, fun _ => rfl⟩
  | succ m ih =>
    intro k hk
    have hlt : k < l.length := by omega
    have ih := ih (k + 1) (by omega)
    by_cases hs : vecE n (nthL l k) = 0
    · rw [rfrom_next hlt hs, ih]
      constructor
      · intro h j h1 h2
        rcases Nat.lt_or_ge k j with h3 | h3
        · exact h j (by omega) h2
        · obtain rfl : j = k := by omega
          exact hs
      · intro h j h1 h2
        exact h j (by omega) h2
    · rw [rfrom_err hlt rfl hs]
      exact ⟨fun h => absurd h hs, fun h => h k (Nat.le_refl _) hlt⟩
/-- Well-formed. -/
structure MOk (m : Mx) : Prop where
  c0 : 0 ≤ m.cols
  c1 : m.cols ≤ 4096
  r1 : m.rows.length ≤ 4096
  ord : ∀ r ∈ m.rows, Ord r
  rng : ∀ r ∈ m.rows, ∀ x ∈ r, 0 ≤ x ∧ x < m.cols
theorem checkM_zero {m : Mx} : checkM m = 0 ↔ MOk m := by
  unfold checkM
  constructor
  · intro h
    split at h
    · omega
    split at h
    · omega
    rename_i h1 h2
    have := (rfrom_zero _ 0 rfl).1 h
    have hm : ∀ r ∈ m.rows, vecE m.cols r = 0 := by
      intro r hr
      obtain ⟨j, hj, rfl⟩ := List.getElem_of_mem hr
      rw [← nthL_eq hj]
      exact this j (by omega) hj
    exact ⟨by omega, by omega, by omega, fun r hr => (vecE_zero.1 (hm r hr)).1, fun r hr => (vecE_zero.1 (hm r hr)).2⟩
  · intro h
    have := h.c0
    have := h.c1
    have := h.r1
    rw [if_neg (by omega), if_neg (by omega), rfrom_zero _ 0 rfl]
    intro j _ hj
    exact vecE_zero.2 ⟨h.ord _ (nthL_mem hj), h.rng _ (nthL_mem hj)⟩
/-- An ordered list of numbers from 0 to n - 1 has at most n places. -/
theorem Ord.length_le {l : List Int} {n : Int} (ho : Ord l) (hr : ∀ x ∈ l, 0 ≤ x ∧ x < n) : (l.length : Int) ≤ n ∨ l = [] := by
  cases hl : l with
  | nil => exact .inr rfl
  | cons x t =>
    left
    have key : ∀ j, j < l.length → (j : Int) ≤ nth l j := by
      intro j
      induction j with
      | zero => intro h; exact (hr _ (nth_mem h)).1
      | succ j ih =>
        intro h
        have h1 := ih (by omega)
        have h2 := List.pairwise_iff_getElem.1 ho j (j + 1) (by omega) h (by omega)
        rw [← nth_eq, ← nth_eq] at h2
        omega
    have hp : 0 < l.length := by rw [hl]; simp
    have h1 := key (l.length - 1) (by omega)
    have h2 := (hr _ (nth_mem (k := l.length - 1) (by omega))).2
    rw [← hl]
    omega
end Go.Proofs.Ytijmjliijjkcbaa
