/- Partitions as lists of labels: plain facts about lists, without the program. -/
import Derived.Lib.Hide
namespace Go.Proofs.YtmlgbaogkbfklaaDoor
set_option linter.unusedVariables false

section
variable {K : Type} [DecidableEq K]

def addF (s : List K) (k : K) : List K := if k ∈ s then s else s ++ [k]
/-- The different keys, in the order of their first places. -/
def firsts (l : List K) : List K := l.foldl addF []
/-- The label of a key: the number of different keys before its first place. -/
def lab (l : List K) (k : K) : Nat := (firsts l).idxOf k
/-- The partition of keys. -/
def labs (l : List K) : List Int := l.map fun k => (lab l k : Int)

theorem firsts_snoc (l : List K) (x : K) : firsts (l ++ [x]) = addF (firsts l) x := by simp [firsts, List.foldl_append]

theorem mem_addF {s : List K} {x k : K} : k ∈ addF s x ↔ k ∈ s ∨ k = x := by
  unfold addF; split
  · rename_i h; exact ⟨.inl, fun h' => h'.elim id (fun e => e ▸ h)⟩
  · simp

theorem mem_foldl_addF (l : List K) : ∀ s : List K, ∀ k, k ∈ l.foldl addF s ↔ k ∈ s ∨ k ∈ l := by
  induction l with
  | nil => simp
  | cons x l ih => intro s k; simp [ih, mem_addF, or_assoc]

theorem mem_firsts {l : List K} {k : K} : k ∈ firsts l ↔ k ∈ l := by simp [firsts, mem_foldl_addF]

theorem nodup_addF {s : List K} {x : K} (h : s.Nodup) : (addF s x).Nodup := by
  unfold addF; split
  · exact h
  · rename_i hx
    rw [List.nodup_append]
    refine ⟨h, by simp, ?_⟩
    intro a ha b hb e
    simp at hb
    exact hx (hb ▸ e ▸ ha)

theorem nodup_firsts_aux (l : List K) : ∀ s : List K, s.Nodup → (l.foldl addF s).Nodup := by
  induction l with
  | nil => intro s h; exact h
  | cons x l ih => intro s h; exact ih _ (nodup_addF h)
theorem nodup_firsts (l : List K) : (firsts l).Nodup := nodup_firsts_aux l [] List.nodup_nil

theorem idxOf_snoc {s : List K} {x k : K} (h : k ∈ s) : (s ++ [x]).idxOf k = s.idxOf k := by rw [List.idxOf_append]; simp [h]
theorem idxOf_new {s : List K} {x : K} (h : x ∉ s) : (s ++ [x]).idxOf x = s.length := by rw [List.idxOf_append]; simp [h]

theorem lab_snoc {l : List K} {x k : K} (h : k ∈ l) : lab (l ++ [x]) k = lab l k := by
  unfold lab; rw [firsts_snoc]; unfold addF; split
  · rfl
  · exact idxOf_snoc (mem_firsts.2 h)
theorem lab_new {l : List K} {x : K} (h : x ∉ l) : lab (l ++ [x]) x = (firsts l).length := by
  unfold lab; rw [firsts_snoc]; unfold addF; rw [if_neg (fun h' => h (mem_firsts.1 h'))]
  exact idxOf_new (fun h' => h (mem_firsts.1 h'))
theorem firsts_old {l : List K} {x : K} (h : x ∈ l) : firsts (l ++ [x]) = firsts l := by rw [firsts_snoc]; unfold addF; rw [if_pos (mem_firsts.2 h)]
theorem firsts_new {l : List K} {x : K} (h : x ∉ l) : firsts (l ++ [x]) = firsts l ++ [x] := by rw [firsts_snoc]; unfold addF; rw [if_neg (fun h' => h (mem_firsts.1 h'))]

theorem length_addF_le (s : List K) (x : K) : (addF s x).length ≤ s.length + 1 := by unfold addF; split <;> simp
theorem length_firsts_le (l : List K) : (firsts l).length ≤ l.length := by
  have : ∀ (l s : List K), (l.foldl addF s).length ≤ s.length + l.length := by
    intro l
    induction l with
    | nil => simp
    | cons x l ih => intro s; have := ih (addF s x); have := length_addF_le s x; simp; omega
  simpa [firsts] using this l []

theorem labs_snoc (l : List K) (x : K) : labs (l ++ [x]) = labs l ++ [(lab (l ++ [x]) x : Int)] := by
  unfold labs
  rw [List.map_append]
  congr 1
  apply List.map_congr_left
  intro k hk
  rw [lab_snoc hk]

@[simp] theorem length_labs (l : List K) : (labs l).length = l.length := by simp [labs]

theorem lab_lt {l : List K} {k : K} (h : k ∈ l) : lab l k < (firsts l).length := List.idxOf_lt_length_iff.2 (mem_firsts.2 h)
theorem lab_inj {l : List K} {j k : K} (hj : j ∈ l) (hk : k ∈ l) (h : lab l j = lab l k) : j = k := by
  unfold lab at h
  have h1 := List.getElem_idxOf (x := j) (xs := firsts l) (List.idxOf_lt_length_iff.2 (mem_firsts.2 hj))
  have h2 := List.getElem_idxOf (x := k) (xs := firsts l) (List.idxOf_lt_length_iff.2 (mem_firsts.2 hk))
  rw [← h1, ← h2]
  congr 1
end

end Go.Proofs.YtmlgbaogkbfklaaDoor
