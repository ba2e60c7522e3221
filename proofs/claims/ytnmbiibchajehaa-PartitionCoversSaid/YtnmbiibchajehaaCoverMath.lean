/- The classes of a well-formed partition: plain facts. -/
import Derived.Test.YtnmbiibchajehaaPartMath4
namespace Go.Proofs.Ytnmbiibchajehaa
set_option linter.unusedVariables false

theorem mem_classS {l : List Int} {k x : Int} : x ∈ classS l k ↔ ∃ i : Nat, i < l.length ∧ nth l i = k ∧ x = (i : Int) := by
  unfold classS
  rw [List.mem_map]
  constructor
  · rintro ⟨i, hi, rfl⟩
    have := List.mem_filter.1 hi
    exact ⟨i, by simpa using this.1, by simpa using this.2, rfl⟩
  · rintro ⟨i, hi, h, rfl⟩
    exact ⟨i, List.mem_filter.2 ⟨by simpa using hi, by simpa using h⟩, rfl⟩

theorem classS_sorted (l : List Int) (k : Int) : (classS l k).Pairwise (· < ·) := by
  unfold classS
  rw [List.pairwise_map]
  refine List.Pairwise.imp (R := fun a b : Nat => a < b) (fun h => by omega) ?_
  exact List.Pairwise.filter _ List.pairwise_lt_range

theorem sorted_nth {l : List Int} (h : l.Pairwise (· < ·)) {i j : Nat} (hij : i < j) (hj : j < l.length) : nth l i < nth l j := by
  rw [nth_eq hj, nth_eq (by omega)]
  exact List.pairwise_iff_getElem.1 h i j (by omega) hj hij

theorem label_mem {l : List Int} (hg : Good l) {k : Int} (h0 : 0 ≤ k) {i : Nat} (hi : i ≤ l.length) (hk : k < numS (l.take i)) : ∃ j, j < i ∧ nth l j = k := by
  have h1 := (firsts_good hg.2 i hi).1
  have hm : k ∈ firsts (l.take i) := by
    rw [h1, List.mem_map]
    exact ⟨k.toNat, by simp; omega, by omega⟩
  rw [mem_firsts] at hm
  obtain ⟨j, hj, e⟩ := List.mem_take_iff_getElem.1 hm
  exact ⟨j, by omega, by rw [nth_eq (by omega)]; exact e⟩

theorem classS_ne {l : List Int} (hg : Good l) {k : Int} (h0 : 0 ≤ k) (hk : k < numS l) : 0 < (classS l k).length := by
  obtain ⟨j, hj, e⟩ := label_mem hg h0 (Nat.le_refl _) (by rw [List.take_length]; exact hk)
  have : (j : Int) ∈ classS l k := mem_classS.2 ⟨j, hj, e, rfl⟩
  exact List.length_pos_of_mem this

theorem classS_first {l : List Int} (hg : Good l) {k : Int} (h0 : 0 < k) (hk : k < numS l) : nth (classS l (k - 1)) 0 < nth (classS l k) 0 := by
  have hp := classS_ne hg (by omega) hk
  obtain ⟨i, hi, hl, he⟩ := mem_classS.1 (nth_mem hp)
  rw [he]
  have hgi := (hg.2 i hi).2
  rw [hl] at hgi
  obtain ⟨j, hj, e⟩ := label_mem hg (k := k - 1) (by omega) (i := i) (by omega) (by omega)
  have hm : (j : Int) ∈ classS l (k - 1) := mem_classS.2 ⟨j, by omega, e, rfl⟩
  obtain ⟨t, ht, e2⟩ := List.getElem_of_mem hm
  have h3 : nth (classS l (k - 1)) 0 ≤ j := by
    by_cases h : t = 0
    · subst h; rw [nth_eq ht, e2]; exact Int.le_refl _
    · have := sorted_nth (classS_sorted l (k - 1)) (show 0 < t by omega) ht
      rw [nth_eq ht, e2] at this
      omega
  omega

/-- Other names of the labels. -/
theorem labs_names {l : List Int} (hg : Good l) (y : Int) : labs (l.map fun x => y - 2 * x) = l := by
  have h1 : l.map (fun x => y - 2 * x) = keys (fun i => y - 2 * nth l i) l.length := by
    apply List.ext_getElem
    · simp
    · intro i h1 h2
      simp at h1
      simp [keys, nth_eq h1]
  rw [h1, labs_congr (g := nth l) (fun i j hi hj => by omega), keys_nth, (labs_good hg).1]

theorem label_lt {l : List Int} {i : Nat} (hi : i < l.length) : nth l i < numS l := by
  have key : ∀ k, k ≤ l.length → ∀ i, i < k → nth l i < numS (l.take k) := by
    intro k
    induction k with
    | zero => intro _ i h; omega
    | succ k ih =>
      intro hk i hik
      rw [take_nth (by omega), numS_snoc]
      by_cases e : i = k
      · subst e; omega
      · have := ih (by omega) i (by omega); omega
  have := key l.length (Nat.le_refl _) i hi
  rwa [List.take_length] at this
end Go.Proofs.Ytnmbiibchajehaa
