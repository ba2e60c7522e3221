/- The values of an assignment: the law. -/
import Derived.Test.YtifcgcdbebgahaaClT
import Derived.Test.YtifcgcdbebgahaaMaps
namespace Go.Proofs.Ytifcgcdbebgahaa
set_option linter.unusedVariables false
open Go.RowKit
attribute [local go_sem ↓] Go.wp_at_zero Go.wp_at_succ

/-- The literal of a variable among literals. -/
def litOf (l : List Int) (v : Int) : Option Int := l.find? fun x => varP x == v
def valOf (l : List Int) (v : Int) : Int := (litOf l v).getD 0
theorem litOf_snoc {l : List Int} {x : Int} (h : litOf l (varP x) = none) : (fun z => litOf (l ++ [x]) z) = fun z => if z = varP x then some x else litOf l z := by
  funext z
  unfold litOf at h ⊢
  rw [List.find?_append]
  by_cases e : z = varP x
  · subst e; rw [h, if_pos rfl]; simp
  · rw [if_neg e]
    have : (varP x == z) = false := by simpa using fun h => e h.symm
    cases List.find? (fun x => varP x == z) l <;> simp [this]
theorem litOf_some {l : List Int} {v y : Int} (h : litOf l v = some y) : y ∈ l ∧ varP y = v := by
  unfold litOf at h
  exact ⟨List.mem_of_find?_eq_some h, by simpa using List.find?_some h⟩
theorem litOf_none {l : List Int} {v : Int} (h : litOf l v = none) : ∀ y ∈ l, varP y ≠ v := by
  unfold litOf at h
  intro y hy e
  have := List.find?_eq_none.1 h y hy
  simp [e] at this
theorem var_same {n x y : Int} (hn : n ≤ 100000) (hx : goodP n x = true) (hy : goodP n y = true) : varP x = varP y ↔ (y = x ∨ y = -x) := by
  have h1 := goodP_iff.1 hx
  have h2 := goodP_iff.1 hy
  rw [varP_good hn hx, varP_good hn hy, varS_small (by omega), varS_small (by omega)]
  split <;> split <;> omega
theorem astep_twice {n : Int} {l : List Int} {k : Nat} {x y : Int} (hn : n ≤ 100000) (hk : k < l.length) (hx : x = nth l k) (hg : goodP n x = true) (hp : ∀ z ∈ l.take k, goodP n z = true) (h : litOf (l.take k) (varP x) = some y) : astep n l k = 7 := by
  obtain ⟨h1, h2⟩ := litOf_some h
  have h3 := goodP_iff.1 hg
  unfold astep
  rw [← hx, if_neg (by rw [hg]; simp), if_pos]
  rcases (var_same hn hg (hp y h1)).1 h2.symm with rfl | rfl
  · exact .inl (memB_iff.2 h1)
  · exact .inr (memB_iff.2 (by rw [show wrap64 (-x) = -x by unfold wrap64; omega]; exact h1))
theorem astep_once {n : Int} {l : List Int} {k : Nat} {x : Int} (hn : n ≤ 100000) (hk : k < l.length) (hx : x = nth l k) (hg : goodP n x = true) (hp : ∀ z ∈ l.take k, goodP n z = true) (h : litOf (l.take k) (varP x) = none) : astep n l k = 0 := by
  have h3 := goodP_iff.1 hg
  have h4 := litOf_none h
  unfold astep
  rw [← hx, if_neg (by rw [hg]; simp), if_neg]
  rintro (e | e)
  · exact h4 _ (memB_iff.1 e) rfl
  · rw [show wrap64 (-x) = -x by unfold wrap64; omega] at e
    have := memB_iff.1 e
    exact h4 _ this ((var_same hn hg (hp _ this)).2 (.inr rfl)).symm
theorem astep_bad {n : Int} {l : List Int} {k : Nat} {x : Int} (hx : x = nth l k) (hg : goodP n x = false) : astep n l k = 2 := by unfold astep; rw [← hx, if_pos hg]
end Go.Proofs.Ytifcgcdbebgahaa
