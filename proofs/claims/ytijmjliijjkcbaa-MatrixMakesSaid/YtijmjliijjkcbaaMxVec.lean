/- Vectors over the field of two elements as ordered lists of positions: plain data. -/
import Derived.Test.YtijmjliijjkcbaaBase
namespace Go.Proofs.Ytijmjliijjkcbaa
set_option linter.unusedVariables false

/-- The sum of two vectors: what is in just one of them. -/
def xorL : List Int → List Int → List Int
  | [], b => b
  | x :: a, [] => x :: a
  | x :: a, y :: b => if x < y then x :: xorL a (y :: b) else if y < x then y :: xorL (x :: a) b else xorL a b
termination_by a b => a.length + b.length

def Ord (l : List Int) : Prop := l.Pairwise (· < ·)

theorem xorL_nil_left (b : List Int) : xorL [] b = b := by rw [xorL]
theorem xorL_nil_right (a : List Int) : xorL a [] = a := by cases a <;> rw [xorL]
theorem xorL_cons (x y : Int) (a b : List Int) : xorL (x :: a) (y :: b) = if x < y then x :: xorL a (y :: b) else if y < x then y :: xorL (x :: a) b else xorL a b := by rw [xorL]

theorem xorL_sub {a b : List Int} : ∀ z, z ∈ xorL a b → z ∈ a ∨ z ∈ b := by
  induction a, b using xorL.induct with
  | case1 b => intro z hz; rw [xorL_nil_left] at hz; exact .inr hz
  | case2 x a => intro z hz; rw [xorL_nil_right] at hz; exact .inl hz
  | case3 x a y b h ih =>
    intro z hz
    rw [xorL_cons, if_pos h] at hz
    rcases List.mem_cons.1 hz with rfl | hz
    · exact .inl (by simp)
    · rcases ih z hz with h | h
      · exact .inl (by simp [h])
      · exact .inr h
  | case4 x a y b h h2 ih =>
    intro z hz
    rw [xorL_cons, if_neg h, if_pos h2] at hz
    rcases List.mem_cons.1 hz with rfl | hz
    · exact .inr (by simp)
    · rcases ih z hz with h | h
      · exact .inl h
      · exact .inr (by simp [h])
  | case5 x a y b h h2 ih =>
    intro z hz
    rw [xorL_cons, if_neg h, if_neg h2] at hz
    rcases ih z hz with h | h
    · exact .inl (by simp [h])
    · exact .inr (by simp [h])

theorem xorL_ord {a b : List Int} (ha : Ord a) (hb : Ord b) : Ord (xorL a b) := by
  unfold Ord at *
  induction a, b using xorL.induct with
  | case1 b => rw [xorL_nil_left]; exact hb
  | case2 x a => rw [xorL_nil_right]; exact ha
  | case3 x a y b h ih =>
    rw [xorL_cons, if_pos h]
    rw [List.pairwise_cons] at ha
    refine List.pairwise_cons.2 ⟨fun z hz => ?_, ih ha.2 hb⟩
    rcases xorL_sub z hz with hz | hz
    · exact ha.1 z hz
    · rw [List.pairwise_cons] at hb
      rcases List.mem_cons.1 hz with rfl | hz
      · exact h
      · have := hb.1 z hz; omega
  | case4 x a y b h h2 ih =>
    rw [xorL_cons, if_neg h, if_pos h2]
    rw [List.pairwise_cons] at hb
    refine List.pairwise_cons.2 ⟨fun z hz => ?_, ih ha hb.2⟩
    rcases xorL_sub z hz with hz | hz
    · rw [List.pairwise_cons] at ha
      rcases List.mem_cons.1 hz with rfl | hz
      · exact h2
      · have := ha.1 z hz; omega
    · exact hb.1 z hz
  | case5 x a y b h h2 ih =>
    rw [xorL_cons, if_neg h, if_neg h2]
    rw [List.pairwise_cons] at ha hb
    exact ih ha.2 hb.2

theorem mem_xorL {a b : List Int} (ha : Ord a) (hb : Ord b) (z : Int) : z ∈ xorL a b ↔ ¬ (z ∈ a ↔ z ∈ b) := by
  unfold Ord at *
  induction a, b using xorL.induct with
  | case1 b => rw [xorL_nil_left]; simp
  | case2 x a =>
    rw [xorL_nil_right]
    by_cases h : z ∈ x :: a
    · simp only [h, List.not_mem_nil]; simp
    · simp only [h, List.not_mem_nil]; simp
  | case3 x a y b h ih =>
    rw [xorL_cons, if_pos h]
    have ha' := List.pairwise_cons.1 ha
    have hb' := List.pairwise_cons.1 hb
    have ih := ih ha'.2 hb
    have hy : ∀ w, w ∈ y :: b → y ≤ w := fun w hw => by
      rcases List.mem_cons.1 hw with rfl | hw
      · omega
      · have := hb'.1 w hw; omega
    by_cases hz : z = x
    · subst hz
      have h1 : z ∉ y :: b := fun hm => by have := hy z hm; omega
      simp [h1]
    · rw [List.mem_cons, List.mem_cons (a := z) (b := x), ih]
      simp only [hz, false_or]
  | case4 x a y b h h2 ih =>
    rw [xorL_cons, if_neg h, if_pos h2]
    have ha' := List.pairwise_cons.1 ha
    have hb' := List.pairwise_cons.1 hb
    have ih := ih ha hb'.2
    have hx : ∀ w, w ∈ x :: a → x ≤ w := fun w hw => by
      rcases List.mem_cons.1 hw with rfl | hw
      · omega
      · have := ha'.1 w hw; omega
    by_cases hz : z = y
    · subst hz
      have h1 : z ∉ x :: a := fun hm => by have := hx z hm; omega
      simp [h1]
    · rw [List.mem_cons, List.mem_cons (a := z) (b := y), ih]
      simp only [hz, false_or]
  | case5 x a y b h h2 ih =>
    rw [xorL_cons, if_neg h, if_neg h2]
    have ha' := List.pairwise_cons.1 ha
    have hb' := List.pairwise_cons.1 hb
    obtain rfl : x = y := by omega
    rw [ih ha'.2 hb'.2, List.mem_cons, List.mem_cons]
    by_cases hz : z = x
    · subst hz
      have h1 : z ∉ a := fun hm => by have := ha'.1 z hm; omega
      have h2 : z ∉ b := fun hm => by have := hb'.1 z hm; omega
      simp [h1, h2]
    · simp [hz]

/-- Of ordered lists with the same elements there is one. -/
theorem ord_ext {l m : List Int} (hl : Ord l) (hm : Ord m) (h : ∀ x, x ∈ l ↔ x ∈ m) : l = m := by
  unfold Ord at *
  induction l generalizing m with
  | nil =>
    cases m with
    | nil => rfl
    | cons y m => exact absurd ((h y).2 (by simp)) (by simp)
  | cons x l ih =>
    cases m with
    | nil => exact absurd ((h x).1 (by simp)) (by simp)
    | cons y m =>
      rw [List.pairwise_cons] at hl hm
      have hxy : x = y := by
        have h1 := (h x).1 (by simp)
        have h2 := (h y).2 (by simp)
        rcases List.mem_cons.1 h1 with h1 | h1
        · exact h1
        · rcases List.mem_cons.1 h2 with h2 | h2
          · exact h2.symm
          · have := hl.1 y h2; have := hm.1 x h1; omega
      subst hxy
      rw [ih hl.2 hm.2]
      intro z
      constructor
      · intro hz
        rcases List.mem_cons.1 ((h z).1 (by simp [hz])) with rfl | hz'
        · have := hl.1 z hz; omega
        · exact hz'
      · intro hz
        rcases List.mem_cons.1 ((h z).2 (by simp [hz])) with rfl | hz'
        · have := hm.1 z hz; omega
        · exact hz'
theorem xorL_comm {a b : List Int} (ha : Ord a) (hb : Ord b) : xorL a b = xorL b a :=
  ord_ext (xorL_ord ha hb) (xorL_ord hb ha) fun z => by rw [mem_xorL ha hb, mem_xorL hb ha]; exact not_congr Iff.comm
theorem xorL_self {a : List Int} (ha : Ord a) : xorL a a = [] :=
  ord_ext (xorL_ord ha ha) .nil fun z => by rw [mem_xorL ha ha]; simp
theorem xorL_assoc {a b c : List Int} (ha : Ord a) (hb : Ord b) (hc : Ord c) : xorL (xorL a b) c = xorL a (xorL b c) :=
  ord_ext (xorL_ord (xorL_ord ha hb) hc) (xorL_ord ha (xorL_ord hb hc)) fun z => by
    rw [mem_xorL (xorL_ord ha hb) hc, mem_xorL ha hb, mem_xorL ha (xorL_ord hb hc), mem_xorL hb hc]
    by_cases h1 : z ∈ a <;> by_cases h2 : z ∈ b <;> by_cases h3 : z ∈ c <;> simp [h1, h2, h3]
end Go.Proofs.Ytijmjliijjkcbaa
