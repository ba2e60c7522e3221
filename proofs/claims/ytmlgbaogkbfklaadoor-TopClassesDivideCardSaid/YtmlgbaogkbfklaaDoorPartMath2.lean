/- What a map of labels and a row of labels hold behind some rounds. -/
import Derived.Test.YtmlgbaogkbfklaaDoorPartMath
import Derived.Test.YtmlgbaogkbfklaaDoorBase
namespace Go.Proofs.YtmlgbaogkbfklaaDoor
set_option linter.unusedVariables false

section
variable {K : Type} [DecidableEq K]

/-- The map of the labels of some keys. -/
def labMap (l : List K) (k : K) : Option Value := if k ∈ l then some (.int .i64 (lab l k)) else none
/-- A row of n labels, of which those of l are laid. -/
def labRow (l : List K) (n : Nat) : List Value := (labs l).map (Value.int .i64) ++ List.replicate (n - l.length) (.int .i64 0)

theorem labMap_nil : labMap ([] : List K) = fun _ => none := by funext k; simp [labMap]
theorem labMap_hit {l : List K} {x : K} (h : x ∈ l) : labMap l x = some (.int .i64 (lab l x)) := by simp [labMap, h]
theorem labMap_miss {l : List K} {x : K} (h : x ∉ l) : labMap l x = none := by simp [labMap, h]
theorem labMap_old {l : List K} {x : K} (h : x ∈ l) : labMap (l ++ [x]) = labMap l := by
  funext k
  unfold labMap
  by_cases hk : k ∈ l
  · rw [if_pos hk, if_pos (by simp [hk]), lab_snoc hk]
  · have : k ≠ x := fun e => hk (e ▸ h)
    rw [if_neg hk, if_neg (by simp [hk, this])]
theorem labMap_new {l : List K} {x : K} (h : x ∉ l) : (fun z => if z = x then some (Value.int .i64 ((firsts l).length : Int)) else labMap l z) = labMap (l ++ [x]) := by
  funext k
  by_cases e : k = x
  · subst e
    simp [labMap, lab_new h]
  · rw [if_neg e]
    unfold labMap
    by_cases hk : k ∈ l
    · rw [if_pos hk, if_pos (by simp [hk]), lab_snoc hk]
    · rw [if_neg hk, if_neg (by simp [hk, e])]

theorem labRow_nil (n : Nat) : labRow ([] : List K) n = List.replicate n (.int .i64 0) := by simp [labRow, labs]
theorem labRow_full (l : List K) : labRow l l.length = (labs l).map (Value.int .i64) := by simp [labRow]
theorem labRow_get {l : List K} {n : Nat} (h : l.length < n) : (labRow l n)[l.length]? = some (.int .i64 0) := by
  unfold labRow
  rw [List.getElem?_append_right (by simp)]
  have e : n - l.length = (n - l.length - 1) + 1 := by omega
  rw [e, List.replicate_succ]
  simp
theorem labRow_set {l : List K} {x : K} {n : Nat} (h : l.length < n) : (labRow l n).set l.length (.int .i64 (lab (l ++ [x]) x)) = labRow (l ++ [x]) n := by
  unfold labRow
  rw [labs_snoc, List.map_append, List.set_append_right _ _ (by simp)]
  have e : n - l.length = (n - (l ++ [x]).length) + 1 := by simp; omega
  rw [e, List.replicate_succ]
  simp
end

theorem labs_wf {K : Type} [DecidableEq K] {l : List K} (h : l.length ≤ 65536) : ∀ x ∈ labs l, WF x := by
  intro x hx
  obtain ⟨k, hk, rfl⟩ := List.mem_map.1 hx
  have := lab_lt hk
  have := length_firsts_le l
  exact WF.small (by omega)
end Go.Proofs.YtmlgbaogkbfklaaDoor
