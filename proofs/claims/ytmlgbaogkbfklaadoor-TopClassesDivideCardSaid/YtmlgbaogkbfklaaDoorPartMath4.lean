/- The partition of keys depends on nothing but which of them are equal; the join. -/
import Derived.Test.YtmlgbaogkbfklaaDoorPartMath3
namespace Go.Proofs.YtmlgbaogkbfklaaDoor
set_option linter.unusedVariables false

section
variable {K L : Type}

/-- The keys f 0, .., f (n - 1). -/
def keys (f : Nat → K) (n : Nat) : List K := (List.range n).map f
theorem keys_succ (f : Nat → K) (n : Nat) : keys f (n + 1) = keys f n ++ [f n] := by simp [keys, List.range_succ]
theorem mem_keys {f : Nat → K} {n : Nat} {x : K} : x ∈ keys f n ↔ ∃ i, i < n ∧ f i = x := by simp [keys]
@[simp] theorem length_keys (f : Nat → K) (n : Nat) : (keys f n).length = n := by simp [keys]

variable [DecidableEq K] [DecidableEq L]
omit [DecidableEq L] in
theorem lab_keys_mono (f : Nat → K) {i n : Nat} (h : i < n) : lab (keys f (n + 1)) (f i) = lab (keys f n) (f i) := by
  rw [keys_succ, lab_snoc (mem_keys.2 ⟨i, h, rfl⟩)]

theorem labs_congr_aux (f : Nat → K) (g : Nat → L) : ∀ n, (∀ i j, i < n → j < n → (f i = f j ↔ g i = g j)) →
    (∀ i, i < n → lab (keys f n) (f i) = lab (keys g n) (g i)) ∧ (firsts (keys f n)).length = (firsts (keys g n)).length := by
  intro n
  induction n with
  | zero => intro _; exact ⟨fun i hi => by omega, rfl⟩
  | succ n ih =>
    intro h
    obtain ⟨h1, h2⟩ := ih (fun i j hi hj => h i j (by omega) (by omega))
    have hmem : f n ∈ keys f n ↔ g n ∈ keys g n := by
      rw [mem_keys, mem_keys]
      constructor
      · rintro ⟨i, hi, e⟩; exact ⟨i, hi, (h i n (by omega) (by omega)).1 e⟩
      · rintro ⟨i, hi, e⟩; exact ⟨i, hi, (h i n (by omega) (by omega)).2 e⟩
    by_cases hf : f n ∈ keys f n
    · have hg := hmem.1 hf
      refine ⟨fun i hi => ?_, by rw [keys_succ, keys_succ, firsts_old hf, firsts_old hg, h2]⟩
      by_cases hin : i < n
      · rw [lab_keys_mono f hin, lab_keys_mono g hin, h1 i hin]
      · obtain rfl : i = n := by omega
        obtain ⟨j, hj, e⟩ := mem_keys.1 hf
        have e' := (h j i (by omega) (by omega)).1 e
        rw [← e, ← e', lab_keys_mono f hj, lab_keys_mono g hj, h1 j hj]
    · have hg : g n ∉ keys g n := fun h' => hf (hmem.2 h')
      refine ⟨fun i hi => ?_, by rw [keys_succ, keys_succ, firsts_new hf, firsts_new hg]; simp [h2]⟩
      by_cases hin : i < n
      · rw [lab_keys_mono f hin, lab_keys_mono g hin, h1 i hin]
      · obtain rfl : i = n := by omega
        rw [keys_succ, keys_succ, lab_new hf, lab_new hg, h2]

theorem labs_congr {f : Nat → K} {g : Nat → L} {n : Nat} (h : ∀ i j, i < n → j < n → (f i = f j ↔ g i = g j)) : labs (keys f n) = labs (keys g n) := by
  obtain ⟨h1, _⟩ := labs_congr_aux f g n h
  apply List.ext_getElem
  · simp
  · intro i hi1 hi2
    simp at hi1
    have := h1 i hi1
    simp [labs, keys] at this ⊢
    rw [this]
end

theorem keys_nth (l : List Int) : keys (nth l) l.length = l := by
  apply List.ext_getElem
  · simp
  · intro i h1 h2
    simp [keys, nth_eq h2]
theorem keys_nthP (l : List (Int × Int)) : keys (fun k => l.getD k (0, 0)) l.length = l := by
  apply List.ext_getElem
  · simp
  · intro i h1 h2
    simp [keys, h2]

/-- The labels of l are equal where the keys are. -/
theorem nth_labs_iff {K : Type} [DecidableEq K] {f : Nat → K} {n i j : Nat} (hi : i < n) (hj : j < n) : nth (labs (keys f n)) i = nth (labs (keys f n)) j ↔ f i = f j := by
  have e : ∀ k, k < n → nth (labs (keys f n)) k = (lab (keys f n) (f k) : Int) := fun k hk => by
    rw [nth_eq (by simpa using hk)]
    simp [labs, keys]
  rw [e i hi, e j hj]
  constructor
  · intro h
    exact lab_inj (mem_keys.2 ⟨i, hi, rfl⟩) (mem_keys.2 ⟨j, hj, rfl⟩) (by omega)
  · intro h; rw [h]

/-- The least equivalence in which elements that a or b puts together are equivalent. -/
def Gen (a b : List Int) (i j : Nat) : Prop :=
  ∀ R : Nat → Nat → Prop, (∀ i j, i < a.length → j < a.length → (nth a i = nth a j ∨ nth b i = nth b j) → R i j) → (∀ i j, R i j → R j i) → (∀ i j k, R i j → R j k → R i k) → R i j
theorem Gen.base {a b : List Int} {i j : Nat} (hi : i < a.length) (hj : j < a.length) (h : nth a i = nth a j ∨ nth b i = nth b j) : Gen a b i j := fun _ h1 _ _ => h1 i j hi hj h
theorem Gen.symm {a b : List Int} {i j : Nat} (h : Gen a b i j) : Gen a b j i := fun R h1 h2 h3 => h2 _ _ (h R h1 h2 h3)
theorem Gen.trans {a b : List Int} {i j k : Nat} (h : Gen a b i j) (h' : Gen a b j k) : Gen a b i k := fun R h1 h2 h3 => h3 _ _ _ (h R h1 h2 h3) (h' R h1 h2 h3)

/-- An element of a class of the join, the same one for all of the class. -/
noncomputable def least (a b : List Int) (i : Nat) : Nat := Classical.epsilon (Gen a b i)

theorem least_iff {a b : List Int} {i j : Nat} (hi : i < a.length) (hj : j < a.length) : least a b i = least a b j ↔ Gen a b i j := by
  have gi : Gen a b i (least a b i) := Classical.epsilon_spec (p := Gen a b i) ⟨i, .base hi hi (.inl rfl)⟩
  have gj : Gen a b j (least a b j) := Classical.epsilon_spec (p := Gen a b j) ⟨j, .base hj hj (.inl rfl)⟩
  constructor
  · intro h
    rw [← h] at gj
    exact gi.trans gj.symm
  · intro h
    have : Gen a b i = Gen a b j := by
      funext k
      exact propext ⟨fun h' => h.symm.trans h', fun h' => h.trans h'⟩
    unfold least
    rw [this]

/-- The join. -/
noncomputable def joinS (a b : List Int) : List Int := labs (keys (least a b) a.length)

theorem joinS_of {a b r : List Int} (hr : r.length = a.length) (h : ∀ i j, i < a.length → j < a.length → (nth r i = nth r j ↔ Gen a b i j)) : labs r = joinS a b := by
  have := keys_nth r
  rw [← this, hr]
  exact labs_congr fun i j hi hj => by rw [h i j hi hj, least_iff hi hj]

theorem idxOf_map_range (n x : Nat) (h : x < n) : ((List.range n).map (fun i : Nat => (i : Int))).idxOf (x : Int) = x := by
  induction n with
  | zero => omega
  | succ n ih =>
    rw [List.range_succ, List.map_append]
    by_cases hx : x < n
    · rw [List.idxOf_append, if_pos (by simp; exact ⟨x, hx, rfl⟩), ih hx]
    · obtain rfl : x = n := by omega
      rw [List.idxOf_append, if_neg (by simp; omega)]
      simp

/-- A well-formed partition is the partition of its labels. -/
theorem firsts_good {l : List Int} (hg : ∀ i, i < l.length → 0 ≤ nth l i ∧ nth l i ≤ numS (l.take i)) : ∀ k, k ≤ l.length → firsts (l.take k) = (List.range (numS (l.take k)).toNat).map (fun i : Nat => (i : Int)) ∧ labs (l.take k) = l.take k := by
  intro k
  induction k with
  | zero => intro _; simp [firsts, numS, labs]
  | succ k ih =>
    intro hk
    obtain ⟨h1, h2⟩ := ih (by omega)
    have hx := hg k (by omega)
    have hn := numS_nonneg (l.take k)
    rw [take_nth (by omega)]
    by_cases hlt : nth l k < numS (l.take k)
    · have hm : nth l k ∈ l.take k := by
        rw [← mem_firsts, h1, List.mem_map]
        exact ⟨(nth l k).toNat, by simp; omega, by omega⟩
      have hnum : numS (l.take k ++ [nth l k]) = numS (l.take k) := by rw [numS_snoc]; omega
      refine ⟨by rw [firsts_old hm, hnum, h1], ?_⟩
      rw [labs_snoc, h2, lab_snoc hm]
      congr 1
      have hl : lab (l.take k) (nth l k) = (nth l k).toNat := by
        unfold lab
        rw [h1]
        have e : nth l k = ((nth l k).toNat : Int) := by omega
        have := idxOf_map_range (numS (l.take k)).toNat (nth l k).toNat (by omega)
        rw [← e] at this
        exact this
      rw [hl]
      simp; omega
    · have he : nth l k = numS (l.take k) := by omega
      have hm : nth l k ∉ l.take k := by
        rw [← mem_firsts, h1, List.mem_map]
        rintro ⟨i, hi, e⟩
        simp at hi; omega
      have hnum : (numS (l.take k ++ [nth l k])).toNat = (numS (l.take k)).toNat + 1 := by rw [numS_snoc]; omega
      refine ⟨?_, ?_⟩
      · rw [firsts_new hm, hnum, h1, List.range_succ, List.map_append]
        congr 1
        simp; omega
      · rw [labs_snoc, h2, lab_new hm, h1]
        congr 1
        simp; omega
theorem labs_good {l : List Int} (h : Good l) : labs l = l ∧ (firsts l).length = (numS l).toNat := by
  have := firsts_good h.2 l.length (Nat.le_refl _)
  rw [List.take_length] at this
  exact ⟨this.2, by rw [this.1]; simp⟩
end Go.Proofs.YtmlgbaogkbfklaaDoor
