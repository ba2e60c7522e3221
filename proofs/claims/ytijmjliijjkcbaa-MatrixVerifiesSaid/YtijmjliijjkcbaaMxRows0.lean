/- Rows with bounds: plain data. -/
import Derived.Test.YtijmjliijjkcbaaMxPar
namespace Go.Proofs.Ytijmjliijjkcbaa
set_option linter.unusedVariables false

/-- Rows in order, with columns below c. -/
structure ROk (c : Int) (R : List (List Int)) : Prop where
  c1 : c ≤ 100000
  ord : Rows R
  rng : ∀ r ∈ R, ∀ x ∈ r, 0 ≤ x ∧ x < c
theorem MOk.rok {m : Mx} (h : MOk m) : ROk m.cols m.rows := ⟨by have := h.c1; omega, h.ord, h.rng⟩
theorem small_len {l : List Int} {c : Int} (hc : c ≤ 100000) (ho : Ord l) (hr : ∀ x ∈ l, 0 ≤ x ∧ x < c) : l.length ≤ 100000 := by
  rcases Ord.length_le ho hr with h | h
  · omega
  · rw [h]; simp
theorem ROk.nth_rng {c : Int} {R : List (List Int)} (h : ROk c R) (k : Nat) : ∀ x ∈ nthL R k, 0 ≤ x ∧ x < c := by
  rcases Nat.lt_or_ge k R.length with h1 | h1
  · exact h.rng _ (nthL_mem h1)
  · rw [show nthL R k = [] from by simp [nthL, List.getElem?_eq_none h1]]; intro x hx; simp at hx
theorem ROk.nth_ord {c : Int} {R : List (List Int)} (h : ROk c R) (k : Nat) : Ord (nthL R k) := nthL_ord h.ord k
theorem ROk.nth_len {c : Int} {R : List (List Int)} (h : ROk c R) (k : Nat) : (nthL R k).length ≤ 100000 := small_len h.c1 (h.nth_ord k) (h.nth_rng k)
theorem sumRows_rng {c : Int} {R : List (List Int)} (h : ROk c R) (y : List Int) : ∀ x ∈ sumRows R y, 0 ≤ x ∧ x < c :=
  snoc_ind (P := fun y => ∀ x ∈ sumRows R y, 0 ≤ x ∧ x < c) (fun x hx => by simp [sumRows_nil] at hx) (fun y k ih x hx => by
    rw [sumRows_snoc] at hx
    exact (xorL_sub x hx).elim (ih x) (h.nth_rng _ x)) y
theorem sumRows_len {c : Int} {R : List (List Int)} (h : ROk c R) (y : List Int) : (sumRows R y).length ≤ 100000 := small_len h.c1 (sumRows_ord h.ord y) (sumRows_rng h y)
end Go.Proofs.Ytijmjliijjkcbaa
