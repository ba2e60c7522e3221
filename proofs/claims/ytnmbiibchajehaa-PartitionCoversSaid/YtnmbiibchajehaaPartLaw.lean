/- The lattice of partitions: plain facts. -/
import Derived.Test.YtnmbiibchajehaaPartApi
import Derived.Test.YtnmbiibchajehaaPartMath4
import Derived.Test.YtnmbiibchajehaaFiner
import Derived.Test.YtnmbiibchajehaaJoin
namespace Go.Proofs.Ytnmbiibchajehaa
set_option linter.unusedVariables false

theorem numS_labs {K : Type} [DecidableEq K] (l : List K) : numS (labs l) = (firsts l).length := by
  have key : ∀ (n : Nat) (l : List K), l.length = n → numS (labs l) = (firsts l).length := by
    intro n
    induction n with
    | zero => intro l hl; have := List.eq_nil_of_length_eq_zero hl; subst this; rfl
    | succ n ih =>
      intro l hl
      obtain ⟨m, x, rfl⟩ : ∃ m x, l = m ++ [x] := ⟨l.dropLast, l.getLast (by intro h; subst h; simp at hl), (List.dropLast_concat_getLast _).symm⟩
      have hm := ih m (by simpa using hl)
      rw [labs_snoc, numS_snoc, hm]
      by_cases h : x ∈ m
      · rw [lab_snoc h, firsts_old h]
        have := lab_lt h
        omega
      · rw [lab_new h, firsts_new h]
        simp; omega
  exact key _ l rfl

theorem take_labs {K : Type} [DecidableEq K] (l : List K) : ∀ k, (labs l).take k = labs (l.take k) := by
  have key : ∀ (n : Nat) (l : List K), l.length = n → ∀ k, (labs l).take k = labs (l.take k) := by
    intro n
    induction n with
    | zero => intro l hl k; have := List.eq_nil_of_length_eq_zero hl; subst this; simp [labs]
    | succ n ih =>
      intro l hl k
      obtain ⟨m, x, rfl⟩ : ∃ m x, l = m ++ [x] := ⟨l.dropLast, l.getLast (by intro h; subst h; simp at hl), (List.dropLast_concat_getLast _).symm⟩
      have hmn : m.length = n := by simpa using hl
      by_cases hk : k ≤ n
      · rw [labs_snoc, List.take_append_of_le_length (by simp; omega), List.take_append_of_le_length (by omega)]
        exact ih m hmn k
      · rw [List.take_of_length_le (by simp; omega), List.take_of_length_le (by simp; omega)]
  exact key _ l rfl

theorem good_labs {K : Type} [DecidableEq K] {l : List K} (h : l.length ≤ 65536) : Good (labs l) := by
  refine ⟨by simpa using h, fun i hi => ?_⟩
  simp at hi
  have e1 : (labs l).take (i + 1) = (labs l).take i ++ [nth (labs l) i] := take_nth (by simpa using hi)
  rw [take_labs, take_labs, List.take_succ_eq_append_getElem hi, labs_snoc] at e1
  have e2 := List.append_cancel_left e1
  simp only [List.cons.injEq, and_true] at e2
  rw [take_labs, numS_labs, ← e2]
  by_cases hm : l[i] ∈ l.take i
  · rw [lab_snoc hm]
    have := lab_lt hm
    omega
  · rw [lab_new hm]; omega

/-- Two well-formed partitions of the same elements. -/
structure Pair (a b : List Int) : Prop where
  left : Good a
  right : Good b
  len : b.length = a.length

theorem Pair.both {a b : List Int} (h : Pair a b) : bothS a b = 0 := by
  simp [bothS, checkS_good.2 h.left, checkS_good.2 h.right, h.len]
theorem pair_of_both {a b : List Int} (h : bothS a b = 0) : Pair a b := by
  have hl := (bothS_len h).1
  unfold bothS at h
  by_cases h1 : checkS a = 0
  · by_cases h2 : checkS b = 0
    · exact ⟨checkS_good.1 h1, checkS_good.1 h2, hl.symm⟩
    · simp [h1, h2] at h
  · simp [h1] at h
theorem Pair.symm {a b : List Int} (h : Pair a b) : Pair b a := ⟨h.right, h.left, h.len.symm⟩
theorem Pair.refl {a : List Int} (h : Good a) : Pair a a := ⟨h, h, rfl⟩

theorem meetS_keys {a b : List Int} (hl : b.length = a.length) : meetS a b = labs (keys (fun i => (nth a i, nth b i)) a.length) := by
  unfold meetS
  congr 1
  apply List.ext_getElem
  · simp; omega
  · intro i h1 h2
    simp at h1 h2
    simp [keys, nth_eq h2, nth_eq (show i < b.length by omega)]

@[simp] theorem length_joinS (a b : List Int) : (joinS a b).length = a.length := by simp [joinS]
theorem length_meetS {a b : List Int} (hl : b.length = a.length) : (meetS a b).length = a.length := by rw [meetS_keys hl]; simp

theorem nth_meetS {a b : List Int} (hl : b.length = a.length) {i j : Nat} (hi : i < a.length) (hj : j < a.length) : nth (meetS a b) i = nth (meetS a b) j ↔ nth a i = nth a j ∧ nth b i = nth b j := by
  rw [meetS_keys hl, nth_labs_iff hi hj]; simp
theorem nth_joinS {a b : List Int} {i j : Nat} (hi : i < a.length) (hj : j < a.length) : nth (joinS a b) i = nth (joinS a b) j ↔ Gen a b i j := by
  unfold joinS
  rw [nth_labs_iff hi hj, least_iff hi hj]

theorem Pair.meet {a b : List Int} (h : Pair a b) : Pair a (meetS a b) := by
  refine ⟨h.left, ?_, length_meetS h.len⟩
  rw [meetS_keys h.len]
  exact good_labs (by simp; exact h.left.1)
theorem Pair.join {a b : List Int} (h : Pair a b) : Pair a (joinS a b) := ⟨h.left, good_labs (by simp; exact h.left.1), by simp⟩

/-- Two partitions are one if they put the same elements together. -/
theorem part_ext {a b : List Int} (ha : Good a) (hb : Good b) (hl : b.length = a.length) (h : ∀ i j, i < a.length → j < a.length → (nth a i = nth a j ↔ nth b i = nth b j)) : a = b := by
  rw [← (labs_good ha).1, ← (labs_good hb).1]
  have ea := keys_nth a
  have eb := keys_nth b
  rw [← ea, ← eb, hl]
  exact labs_congr h

theorem meet_comm {a b : List Int} (h : Pair a b) : meetS a b = meetS b a := by
  refine part_ext h.meet.right h.symm.meet.right (by rw [length_meetS h.len, length_meetS h.symm.len]; exact h.len) ?_
  intro i j hi hj
  rw [length_meetS h.len] at hi hj
  rw [nth_meetS h.len hi hj, nth_meetS h.symm.len (by rw [h.len]; exact hi) (by rw [h.len]; exact hj)]
  exact And.comm

theorem gen_comm {a b : List Int} (hl : b.length = a.length) {i j : Nat} (h : Gen a b i j) : Gen b a i j :=
  h _ (fun i j hi hj e => .base (by omega) (by omega) e.symm) (fun _ _ h => h.symm) (fun _ _ _ h1 h2 => h1.trans h2)

theorem join_comm {a b : List Int} (h : Pair a b) : joinS a b = joinS b a := by
  refine part_ext h.join.right h.symm.join.right (by simp [h.len]) ?_
  intro i j hi hj
  simp at hi hj
  rw [nth_joinS hi hj, nth_joinS (by rw [h.len]; exact hi) (by rw [h.len]; exact hj)]
  exact ⟨gen_comm h.len, gen_comm h.symm.len⟩

/-- If b is coarser than a, the join is b. -/
theorem gen_under {a b : List Int} (hu : Under a b) {i j : Nat} (h : Gen a b i j) : nth b i = nth b j :=
  h (fun i j => nth b i = nth b j) (fun i j hi hj e => e.elim (fun e => hu i j hi hj e) id) (fun _ _ e => e.symm) (fun _ _ _ e1 e2 => e1.trans e2)

theorem meet_of_under {a b : List Int} (h : Pair a b) (hu : Under a b) : meetS a b = a := by
  refine part_ext h.meet.right h.left (length_meetS h.len).symm ?_
  intro i j hi hj
  rw [length_meetS h.len] at hi hj
  rw [nth_meetS h.len hi hj]
  exact ⟨fun h => h.1, fun e => ⟨e, hu i j hi hj e⟩⟩
theorem join_of_under {a b : List Int} (h : Pair a b) (hu : Under a b) : joinS a b = b := by
  refine part_ext h.join.right h.right (by simp [h.len]) ?_
  intro i j hi hj
  simp at hi hj
  rw [nth_joinS hi hj]
  exact ⟨gen_under hu, fun e => .base hi hj (.inr e)⟩
theorem under_of_meet {a b : List Int} (h : Pair a b) (e : meetS a b = a) : Under a b := by
  intro i j hi hj h1
  rw [← e] at h1
  exact ((nth_meetS h.len hi hj).1 h1).2
theorem under_of_join {a b : List Int} (h : Pair a b) (e : joinS a b = b) : Under a b := by
  intro i j hi hj h1
  rw [← e]
  exact (nth_joinS hi hj).2 (.base hi hj (.inl h1))
theorem under_refl (a : List Int) : Under a a := fun _ _ _ _ h => h
theorem under_meet {a b : List Int} (h : Pair a b) : Under (meetS a b) a := by
  intro i j hi hj h1
  rw [length_meetS h.len] at hi hj
  exact ((nth_meetS h.len hi hj).1 h1).1
theorem under_join {a b : List Int} (h : Pair a b) : Under a (joinS a b) := fun i j hi hj e => (nth_joinS hi hj).2 (.base hi hj (.inl e))
theorem under_join' {a b : List Int} (h : Pair a b) : Under b (joinS a b) := fun i j hi hj e => (nth_joinS (by rw [← h.len]; exact hi) (by rw [← h.len]; exact hj)).2 (.base (by rw [← h.len]; exact hi) (by rw [← h.len]; exact hj) (.inr e))

theorem join_meet {a b : List Int} (h : Pair a b) : joinS a (meetS a b) = a := by
  refine part_ext h.meet.join.right h.left (by simp) ?_
  intro i j hi hj
  simp at hi hj
  rw [nth_joinS hi hj]
  constructor
  · intro g
    exact g (fun i j => nth a i = nth a j) (fun i j hi hj e => e.elim id (fun e => ((nth_meetS h.len hi hj).1 e).1)) (fun _ _ e => e.symm) (fun _ _ _ e1 e2 => e1.trans e2)
  · intro e; exact .base hi hj (.inl e)
theorem meet_join {a b : List Int} (h : Pair a b) : meetS a (joinS a b) = a := meet_of_under h.join (under_join h)

theorem meet_assoc {a b c : List Int} (h : Pair a b) (h' : Pair b c) : meetS (meetS a b) c = meetS a (meetS b c) := by
  have l1 := length_meetS h.len
  have l2 := length_meetS h'.len
  have p1 : Pair (meetS a b) c := ⟨h.meet.right, h'.right, by rw [l1, h'.len, h.len]⟩
  have p2 : Pair a (meetS b c) := ⟨h.left, h'.meet.right, by rw [l2, h.len]⟩
  refine part_ext p1.meet.right p2.meet.right (by rw [length_meetS p1.len, length_meetS p2.len, l1]) ?_
  intro i j hi hj
  rw [length_meetS p1.len, l1] at hi hj
  rw [nth_meetS p1.len (by rw [l1]; exact hi) (by rw [l1]; exact hj), nth_meetS h.len hi hj, nth_meetS p2.len hi hj, nth_meetS h'.len (by rw [h.len]; exact hi) (by rw [h.len]; exact hj)]
  exact and_assoc

theorem join_assoc {a b c : List Int} (h : Pair a b) (h' : Pair b c) : joinS (joinS a b) c = joinS a (joinS b c) := by
  have p1 : Pair (joinS a b) c := ⟨h.join.right, h'.right, by simp [h'.len, h.len]⟩
  have p2 : Pair a (joinS b c) := ⟨h.left, h'.join.right, by simp [h.len]⟩
  refine part_ext p1.join.right p2.join.right (by simp) ?_
  intro i j hi hj
  simp at hi hj
  rw [nth_joinS (by simpa using hi) (by simpa using hj), nth_joinS hi hj]
  have hb := h.len
  constructor
  · intro g
    refine g (Gen a (joinS b c)) ?_ (fun _ _ h => h.symm) (fun _ _ _ h1 h2 => h1.trans h2)
    intro i j hi hj e
    simp at hi hj
    rcases e with e | e
    · refine (nth_joinS hi hj).1 e (Gen a (joinS b c)) ?_ (fun _ _ h => h.symm) (fun _ _ _ h1 h2 => h1.trans h2)
      intro i j hi hj e
      rcases e with e | e
      · exact .base hi hj (.inl e)
      · exact .base hi hj (.inr (under_join h' i j (by omega) (by omega) e))
    · exact .base hi hj (.inr (under_join' h' i j (by have := h'.len; omega) (by have := h'.len; omega) e))
  · intro g
    refine g (Gen (joinS a b) c) ?_ (fun _ _ h => h.symm) (fun _ _ _ h1 h2 => h1.trans h2)
    intro i j hi hj e
    rcases e with e | e
    · exact .base (by simpa using hi) (by simpa using hj) (.inl (under_join h i j hi hj e))
    · refine (nth_joinS (by omega) (by omega)).1 e (Gen (joinS a b) c) ?_ (fun _ _ h => h.symm) (fun _ _ _ h1 h2 => h1.trans h2)
      intro i j hi hj e
      rcases e with e | e
      · exact .base (by simp; omega) (by simp; omega) (.inl (under_join' h i j hi hj e))
      · exact .base (by simp; omega) (by simp; omega) (.inr e)

/-- A finer partition has at least as many classes. -/
theorem firsts_under {a b : List Int} (hl : b.length = a.length) (hu : Under a b) : (firsts b).length ≤ (firsts a).length := by
  have key : ∀ k, k ≤ a.length → (firsts (b.take k)).length ≤ (firsts (a.take k)).length := by
    intro k
    induction k with
    | zero => intro _; simp
    | succ k ih =>
      intro hk
      have := ih (by omega)
      rw [take_nth (show k < a.length by omega), take_nth (show k < b.length by omega)]
      by_cases hb : nth b k ∈ b.take k
      · rw [firsts_old hb]
        by_cases ha : nth a k ∈ a.take k
        · rw [firsts_old ha]; exact this
        · rw [firsts_new ha]; simp; omega
      · have ha : nth a k ∉ a.take k := by
          intro h
          obtain ⟨i, hi, e⟩ := List.mem_take_iff_getElem.1 h
          apply hb
          have e2 := hu i k (by omega) (by omega) (by rw [nth_eq (show i < a.length by omega)]; exact e)
          rw [← e2]
          exact List.mem_take_iff_getElem.2 ⟨i, by omega, by rw [nth_eq (by omega)]⟩
        rw [firsts_new hb, firsts_new ha]; simp; omega
  have := key a.length (Nat.le_refl _)
  rw [List.take_length, List.take_of_length_le (by omega)] at this
  exact this
theorem numS_under {a b : List Int} (h : Pair a b) (hu : Under a b) : numS b ≤ numS a := by
  have h1 := firsts_under h.len hu
  have h2 := (labs_good h.left).2
  have h3 := (labs_good h.right).2
  have := numS_nonneg a
  have := numS_nonneg b
  omega
end Go.Proofs.Ytnmbiibchajehaa
