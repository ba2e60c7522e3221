/- Products and renamings of graphs: the laws in plain words. -/
import Derived.Test.YtmlgbaogkbfklaaDoorGrU
namespace Go.Proofs.YtmlgbaogkbfklaaDoor
set_option linter.unusedVariables false
open Go.RowKit

/-! bits -/
theorem bit_gath {h : Nat → Nat} {s i : Nat} : (gath h s).testBit i = true ↔ ∃ m, m < 5 ∧ s.testBit m = true ∧ (h m).testBit i = true := by
  unfold gath
  rw [testBit_orAll, List.any_eq_true]
  constructor
  · rintro ⟨m, hm, hi⟩; obtain ⟨h1, h2⟩ := mem_elems.1 hm; exact ⟨m, h1, h2, hi⟩
  · rintro ⟨m, h1, h2, hi⟩; exact ⟨m, mem_elems.2 ⟨h1, h2⟩, hi⟩
theorem bit_lt {a n i : Nat} (ha : a < 2 ^ n) (h : a.testBit i = true) : i < n := by
  by_cases e : i < n
  · exact e
  · rw [Nat.testBit_lt_two_pow (Nat.lt_of_lt_of_le ha (Nat.pow_le_pow_right (by decide) (by omega)))] at h; cases h
theorem lt_of_bits {a n : Nat} (h : ∀ i, a.testBit i = true → i < n) : a < 2 ^ n := by
  refine Nat.lt_pow_two_of_testBit _ fun i hi => ?_
  cases e : a.testBit i with
  | false => rfl
  | true => have := h i e; omega
theorem bits_eq {a b : Nat} (h : ∀ i, a.testBit i = true ↔ b.testBit i = true) : a = b := by
  apply Nat.eq_of_testBit_eq
  intro i
  rw [Bool.eq_iff_iff]; exact h i

/-! products -/
theorem bit_prod {n : Nat} {a b : Nat → Nat} (B : GOK n b) {p : Nat} (hp : p < n) {i : Nat} : (prodG a b p).testBit i = true ↔ ∃ m, m < n ∧ (b p).testBit m = true ∧ (a m).testBit i = true := by
  unfold prodG
  rw [bit_gath]
  have := B.le
  constructor
  · rintro ⟨m, _, h2, h3⟩; exact ⟨m, bit_lt (B.lt p hp) h2, h2, h3⟩
  · rintro ⟨m, h1, h2, h3⟩; exact ⟨m, by omega, h2, h3⟩
def mulG (n : Nat) (a b : Nat → Nat) : Nat → Nat := cut n (prodG a b)
theorem gok_mul {n : Nat} {a b : Nat → Nat} (A : GOK n a) (B : GOK n b) : GOK n (mulG n a b) :=
  gok_cut A.pos A.le (fun p hp => lt_of_bits fun i hi => by
    obtain ⟨m, h1, _, h3⟩ := (bit_prod B hp).1 hi
    exact bit_lt (A.lt m h1) h3) fun p hp => (bit_prod B hp).2 ⟨p, hp, B.own p hp, A.own p hp⟩
theorem bit_mul {n : Nat} {a b : Nat → Nat} (B : GOK n b) {p : Nat} (hp : p < n) {i : Nat} : (mulG n a b p).testBit i = true ↔ ∃ m, m < n ∧ (b p).testBit m = true ∧ (a m).testBit i = true := by
  unfold mulG; rw [cut_lt hp]; exact bit_prod B hp
theorem ext_gok {n : Nat} {a b : Nat → Nat} (A : GOK n a) (B : GOK n b) (h : ∀ p, p < n → ∀ i, (a p).testBit i = true ↔ (b p).testBit i = true) : ∀ p, p < 5 → a p = b p := fun p hp => by
  by_cases e : p < n
  · exact bits_eq (h p e)
  · rw [A.zero p (by omega) hp, B.zero p (by omega) hp]
theorem mul_assoc' {n : Nat} {a b c : Nat → Nat} (A : GOK n a) (B : GOK n b) (C : GOK n c) : ∀ p, p < 5 → mulG n (mulG n a b) c p = mulG n a (mulG n b c) p :=
  ext_gok (gok_mul (gok_mul A B) C) (gok_mul A (gok_mul B C)) fun p hp i => by
    rw [bit_mul C hp, bit_mul (gok_mul B C) hp]
    constructor
    · rintro ⟨m, h1, h2, h3⟩
      obtain ⟨k, k1, k2, k3⟩ := (bit_mul B h1).1 h3
      exact ⟨k, k1, (bit_mul C hp).2 ⟨m, h1, h2, k2⟩, k3⟩
    · rintro ⟨k, k1, k2, k3⟩
      obtain ⟨m, h1, h2, h3⟩ := (bit_mul C hp).1 k2
      exact ⟨m, h1, h2, (bit_mul B h1).2 ⟨k, k1, h3, k3⟩⟩
theorem mul_silent {n : Nat} {a : Nat → Nat} (A : GOK n a) : ∀ p, p < 5 → mulG n (cut n fun p => 2 ^ p) a p = a p :=
  ext_gok (gok_mul (gok_silent A.pos A.le) A) A fun p hp i => by
    rw [bit_mul A hp]
    constructor
    · rintro ⟨m, h1, h2, h3⟩
      rw [cut_lt h1, Nat.testBit_two_pow] at h3
      simp at h3
      subst h3; exact h2
    · intro h
      have hi := bit_lt (A.lt p hp) h
      exact ⟨i, hi, h, by rw [cut_lt hi, Nat.testBit_two_pow]; simp⟩
theorem mul_or {n : Nat} {a b c : Nat → Nat} (A : GOK n a) (B : GOK n b) (C : GOK n c) : ∀ p, p < 5 → mulG n (orG n a b) c p = orG n (mulG n a c) (mulG n b c) p :=
  ext_gok (gok_mul (gok_or A B) C) (gok_or (gok_mul A C) (gok_mul B C)) fun p hp i => by
    rw [bit_mul C hp]
    unfold orG
    rw [cut_lt hp, Nat.testBit_or, Bool.or_eq_true, bit_mul C hp, bit_mul C hp]
    constructor
    · rintro ⟨m, h1, h2, h3⟩
      rw [cut_lt h1, Nat.testBit_or, Bool.or_eq_true] at h3
      rcases h3 with h3 | h3
      · exact .inl ⟨m, h1, h2, h3⟩
      · exact .inr ⟨m, h1, h2, h3⟩
    · rintro (⟨m, h1, h2, h3⟩ | ⟨m, h1, h2, h3⟩)
      · exact ⟨m, h1, h2, by rw [cut_lt h1, Nat.testBit_or, h3, Bool.true_or]⟩
      · exact ⟨m, h1, h2, by rw [cut_lt h1, Nat.testBit_or, h3, Bool.or_true]⟩

/-! permutations -/
theorem perm_mem {pl : List Nat} (H : PermN pl) {q : Nat} (hq : q < pl.length) : q ∈ pl := by
  by_cases h : q ∈ pl
  · exact h
  · exfalso
    have hn : (q :: pl).Nodup := List.nodup_cons.2 ⟨h, H.nodup⟩
    have hs : (q :: pl) ⊆ List.range pl.length := fun x hx => by
      rw [List.mem_range]
      rcases List.mem_cons.1 hx with rfl | hx
      · exact hq
      · exact H.lt x hx
    have := hn.length_le_of_subset hs
    rw [List.length_cons, List.length_range] at this
    omega
theorem back_eq {pl : List Nat} (H : PermN pl) {q : Nat} (hq : q < pl.length) : backN pl q = pl.idxOf q := by
  unfold backN; rw [List.take_length, if_pos (perm_mem H hq)]
theorem back_at {pl : List Nat} (H : PermN pl) {k : Nat} (hk : k < pl.length) : backN pl pl[k] = k := by
  rw [back_eq H (H.lt _ (List.getElem_mem hk)), H.nodup.idxOf_getElem]
theorem at_back {pl : List Nat} (H : PermN pl) {q : Nat} (hq : q < pl.length) : pl[backN pl q]'(backN_lt H q) = q := by
  simp only [back_eq H hq]
  exact List.getElem_idxOf _
theorem bit_img {pl : List Nat} {s i : Nat} : ∀ k, k ≤ pl.length → ((imgTo pl s k).testBit i = true ↔ ∃ j, ∃ hj : j < pl.length, j < k ∧ s.testBit j = true ∧ pl[j] = i) := by
  intro k
  induction k with
  | zero => intro _; simp [imgTo]
  | succ k ih =>
    intro hk
    unfold imgTo
    rw [Nat.testBit_or, Bool.or_eq_true, ih (by omega)]
    have e1 : pl.getD k 0 = pl[k] := by simp [show k < pl.length by omega]
    constructor
    · rintro (⟨j, hj, h1, h2, h3⟩ | h)
      · exact ⟨j, hj, by omega, h2, h3⟩
      · by_cases hb : s.testBit k = true
        · rw [if_pos hb, e1, Nat.testBit_two_pow] at h
          simp at h
          exact ⟨k, by omega, by omega, hb, h⟩
        · rw [if_neg hb] at h; simp at h
    · rintro ⟨j, hj, h1, h2, h3⟩
      by_cases e : j = k
      · subst e
        refine .inr ?_
        rw [if_pos h2, e1, Nat.testBit_two_pow]
        simpa using h3
      · exact .inl ⟨j, hj, by omega, h2, h3⟩
end Go.Proofs.YtmlgbaogkbfklaaDoor
