/- Forests of parents, their roots, and what joining two roots does: plain facts. -/
import Derived.Test.YtmlgbaogkbfklaaDoorPartMath4
namespace Go.Proofs.YtmlgbaogkbfklaaDoor
set_option linter.unusedVariables false

/-- The parent of an element. -/
def par (ps : List Int) (i : Nat) : Nat := (nth ps i).toNat
/-- No parent is greater than its child. -/
def Forest (ps : List Int) : Prop := ∀ i, i < ps.length → 0 ≤ nth ps i ∧ nth ps i ≤ i

theorem Forest.par {ps : List Int} (h : Forest ps) {i : Nat} (hi : i < ps.length) : nth ps i = (par ps i : Int) ∧ par ps i ≤ i := by
  have := h i hi
  unfold Go.Proofs.YtmlgbaogkbfklaaDoor.par
  omega

def rootN (ps : List Int) : Nat → Nat → Nat
  | 0, i => i
  | f + 1, i => if par ps i = i then i else rootN ps f (par ps i)
/-- The root of an element. -/
def root (ps : List Int) (i : Nat) : Nat := rootN ps i i

theorem rootN_fuel {ps : List Int} (h : Forest ps) : ∀ f g i, i ≤ f → i ≤ g → i < ps.length → rootN ps f i = rootN ps g i := by
  intro f
  induction f with
  | zero =>
    intro g i hf hg hi
    obtain rfl : i = 0 := by omega
    cases g with
    | zero => rfl
    | succ g =>
      have := (h.par hi).2
      have e : par ps 0 = 0 := by omega
      simp [rootN, e]
  | succ f ih =>
    intro g i hf hg hi
    have hp := (h.par hi).2
    cases g with
    | zero =>
      obtain rfl : i = 0 := by omega
      have e : par ps 0 = 0 := by omega
      simp [rootN, e]
    | succ g =>
      simp only [rootN]
      split
      · rfl
      · rename_i hne
        exact ih g _ (by omega) (by omega) (by omega)

theorem root_fix {ps : List Int} {i : Nat} (h : par ps i = i) : root ps i = i := by
  unfold root
  cases i with
  | zero => rfl
  | succ i => simp [rootN, h]
theorem root_step {ps : List Int} (hF : Forest ps) {i : Nat} (hi : i < ps.length) : root ps i = root ps (par ps i) := by
  have hp := (hF.par hi).2
  by_cases e : par ps i = i
  · rw [e]
  · unfold root
    cases i with
    | zero => omega
    | succ i =>
      simp only [rootN]
      rw [if_neg e]
      exact rootN_fuel hF _ _ _ (by omega) (Nat.le_refl _) (by omega)

/-- The root is a root, and no greater than the element. -/
theorem root_spec {ps : List Int} (hF : Forest ps) : ∀ i, i < ps.length → par ps (root ps i) = root ps i ∧ root ps i ≤ i := by
  intro i
  induction i using Nat.strongRecOn with
  | ind i ih =>
    intro hi
    have hp := (hF.par hi).2
    by_cases e : par ps i = i
    · rw [root_fix e]; exact ⟨e, Nat.le_refl _⟩
    · rw [root_step hF hi]
      obtain ⟨h1, h2⟩ := ih (par ps i) (by omega) (by omega)
      exact ⟨h1, by omega⟩

theorem nth_set_eq {l : List Int} {i : Nat} {x : Int} (h : i < l.length) : nth (l.set i x) i = x := by simp [nth, h]
theorem nth_set_ne {l : List Int} {i j : Nat} {x : Int} (h : j ≠ i) : nth (l.set i x) j = nth l j := by simp [nth, List.getElem?_set_ne (fun e : i = j => h e.symm)]
theorem par_set_eq {l : List Int} {i : Nat} {x : Nat} (h : i < l.length) : par (l.set i x) i = x := by unfold par; rw [nth_set_eq h]; simp
theorem par_set_ne {l : List Int} {i j : Nat} {x : Nat} (h : j ≠ i) : par (l.set i x) j = par l j := by unfold par; rw [nth_set_ne h]

theorem Forest.set {ps : List Int} (hF : Forest ps) {i x : Nat} (hx : x ≤ i) : Forest (ps.set i x) := by
  intro j hj
  simp at hj
  by_cases e : j = i
  · subst e; rw [nth_set_eq hj]; omega
  · rw [nth_set_ne e]; exact hF j hj

/-- Halving a path keeps the roots. -/
theorem root_halve {ps : List Int} (hF : Forest ps) {i : Nat} (hi : i < ps.length) :
    ∀ j, j < ps.length → root (ps.set i (par ps (par ps i) : Nat)) j = root ps j := by
  have hp := (hF.par hi).2
  have hpp := (hF.par (show par ps i < ps.length by omega)).2
  have hF' := hF.set (i := i) (x := par ps (par ps i)) (by omega)
  intro j
  induction j using Nat.strongRecOn with
  | ind j ih =>
    intro hj
    have hj' : j < (ps.set i (par ps (par ps i) : Nat)).length := by simpa using hj
    by_cases e : j = i
    · subst e
      rw [root_step hF' hj', par_set_eq hj]
      by_cases e2 : par ps (par ps j) = j
      · have e3 : par ps j = j := by omega
        have e4 : par (ps.set j (par ps (par ps j) : Nat)) j = j := by rw [par_set_eq hj, e2]
        rw [e2] at e4 ⊢
        rw [root_fix e4, root_fix e3]
      · rw [ih _ (by omega) (by omega), ← root_step hF (show par ps j < ps.length by omega), ← root_step hF hj]
    · have hpj := (hF.par hj).2
      by_cases e2 : par ps j = j
      · rw [root_fix e2, root_fix (by rw [par_set_ne e, e2])]
      · rw [root_step hF' hj', par_set_ne e, ih _ (by omega) (by omega), ← root_step hF hj]

/-- Laying the lesser of two roots as the parent of the greater one. -/
theorem root_link {ps : List Int} (hF : Forest ps) {p q : Nat} (hq : q < ps.length) (hpq : p ≤ q) (hp : par ps p = p) (hqq : par ps q = q) :
    ∀ j, j < ps.length → root (ps.set q (p : Nat)) j = if root ps j = q then p else root ps j := by
  have hF' := hF.set (i := q) (x := p) hpq
  intro j
  induction j using Nat.strongRecOn with
  | ind j ih =>
    intro hj
    have hj' : j < (ps.set q (p : Nat)).length := by simpa using hj
    by_cases e : j = q
    · subst e
      rw [root_fix hqq, if_pos rfl, root_step hF' hj', par_set_eq hj]
      by_cases e2 : p = j
      · subst e2
        exact root_fix (by rw [par_set_eq hj])
      · exact root_fix (by rw [par_set_ne e2, hp])
    · have hpj := (hF.par hj).2
      by_cases e2 : par ps j = j
      · rw [root_fix e2, if_neg e, root_fix (by rw [par_set_ne e, e2])]
      · rw [root_step hF' hj', par_set_ne e, ih _ (by omega) (by omega), ← root_step hF hj]

/-- The start: each element is its own root. -/
def idList (n : Nat) : List Int := (List.range n).map fun i : Nat => (i : Int)
@[simp] theorem length_idList (n : Nat) : (idList n).length = n := by simp [idList]
theorem nth_idList {n i : Nat} (h : i < n) : nth (idList n) i = i := by simp [nth, idList, h]
theorem forest_idList (n : Nat) : Forest (idList n) := by
  intro i hi
  simp at hi
  rw [nth_idList hi]; omega
theorem root_idList {n i : Nat} (h : i < n) : root (idList n) i = i := root_fix (by unfold par; rw [nth_idList h]; simp)

theorem root_wf {ps : List Int} (hF : Forest ps) (hn : ps.length ≤ 65536) : ∀ x ∈ ps, WF x := by
  intro x hx
  obtain ⟨i, hi, rfl⟩ := List.getElem_of_mem hx
  have := hF i hi
  rw [nth_eq hi] at this
  exact WF.small (by omega)

end Go.Proofs.YtmlgbaogkbfklaaDoor
