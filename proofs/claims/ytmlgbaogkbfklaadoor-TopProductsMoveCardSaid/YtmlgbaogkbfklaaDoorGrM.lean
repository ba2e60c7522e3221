/- Unions of graphs: the law in plain words. -/
import Derived.Test.YtmlgbaogkbfklaaDoorGrL
namespace Go.Proofs.YtmlgbaogkbfklaaDoor
set_option linter.unusedVariables false
open Go.RowKit

def orG (n : Nat) (h h' : Nat → Nat) : Nat → Nat := cut n fun p => h p ||| h' p
theorem cut_lt {n p : Nat} {h : Nat → Nat} (hp : p < n) : cut n h p = h p := by unfold cut; rw [if_pos hp]
theorem cut_ge {n p : Nat} {h : Nat → Nat} (hp : ¬ p < n) : cut n h p = 0 := by unfold cut; rw [if_neg hp]
theorem gok_or {n : Nat} {h h' : Nat → Nat} (H : GOK n h) (H' : GOK n h') : GOK n (orG n h h') :=
  gok_cut H.pos H.le (fun p hp => Nat.or_lt_two_pow (H.lt p hp) (H'.lt p hp)) fun p hp => by rw [Nat.testBit_or, H.own p hp, Bool.true_or]
theorem or_comm' (n : Nat) (h h' : Nat → Nat) : orG n h h' = orG n h' h := by
  funext p; unfold orG
  by_cases e : p < n
  · rw [cut_lt e, cut_lt e]; exact Nat.or_comm _ _
  · rw [cut_ge e, cut_ge e]
theorem or_assoc' (n : Nat) (a b c : Nat → Nat) : orG n (orG n a b) c = orG n a (orG n b c) := by
  funext p; unfold orG
  by_cases e : p < n
  · have h1 : ∀ x y : Nat → Nat, cut n (fun p => x p ||| y p) p = x p ||| y p := fun x y => cut_lt e
    rw [h1, h1, h1, h1, Nat.or_assoc]
  · rw [cut_ge e, cut_ge e]
theorem or_self' {n : Nat} {h : Nat → Nat} (H : GOK n h) : ∀ p, p < 5 → orG n h h p = h p := fun p hp => by
  unfold orG
  by_cases e : p < n
  · rw [cut_lt e, Nat.or_self]
  · rw [cut_ge e, H.zero p (by omega) hp]
theorem without_zero {a b : Nat} : without a b = 0 ↔ ∀ i, a.testBit i = true → b.testBit i = true := by
  constructor
  · intro h i hi
    have := testBit_without a b i
    rw [h, hi] at this
    simpa using this.symm
  · intro h
    apply Nat.eq_of_testBit_eq
    intro i
    rw [testBit_without, Nat.zero_testBit]
    cases ha : a.testBit i with
    | false => rfl
    | true => rw [h i ha]; rfl
theorem or_eq_right {a b : Nat} : a ||| b = b ↔ ∀ i, a.testBit i = true → b.testBit i = true := by
  constructor
  · intro h i hi
    rw [← h, Nat.testBit_or, hi, Bool.true_or]
  · intro h
    apply Nat.eq_of_testBit_eq
    intro i
    rw [Nat.testBit_or]
    cases ha : a.testBit i with
    | false => simp
    | true => rw [h i ha]; rfl
theorem inside_or {n : Nat} {a b : Nat → Nat} (A : GOK n a) (B : GOK n b) : insideB a b 5 ↔ ∀ p, p < 5 → orG n a b p = b p := by
  constructor
  · intro h p hp
    unfold orG
    by_cases e : p < n
    · rw [cut_lt e]; exact or_eq_right.2 (without_zero.1 (h p hp))
    · rw [cut_ge e, B.zero p (by omega) hp]
  · intro h p hp
    by_cases e : p < n
    · have := h p hp
      unfold orG at this
      rw [cut_lt e] at this
      exact without_zero.2 (or_eq_right.1 this)
    · rw [A.zero p (by omega) hp]; exact without_zero.2 fun i hi => by simp at hi
theorem inside_left {n : Nat} {a b : Nat → Nat} (A : GOK n a) : insideB a (orG n a b) 5 := fun p hp => by
  unfold orG
  by_cases e : p < n
  · rw [cut_lt e]; exact without_zero.2 fun i hi => by rw [Nat.testBit_or, hi, Bool.true_or]
  · rw [A.zero p (by omega) hp]; exact without_zero.2 fun i hi => by simp at hi
theorem inside_both {n : Nat} {a b c : Nat → Nat} (A : GOK n a) (B : GOK n b) : insideB (orG n a b) c 5 ↔ insideB a c 5 ∧ insideB b c 5 := by
  constructor
  · intro h
    constructor
    · intro p hp
      have := without_zero.1 (h p hp)
      unfold orG at this
      by_cases e : p < n
      · rw [cut_lt e] at this; exact without_zero.2 fun i hi => this i (by rw [Nat.testBit_or, hi, Bool.true_or])
      · rw [A.zero p (by omega) hp]; exact without_zero.2 fun i hi => by simp at hi
    · intro p hp
      have := without_zero.1 (h p hp)
      unfold orG at this
      by_cases e : p < n
      · rw [cut_lt e] at this; exact without_zero.2 fun i hi => this i (by rw [Nat.testBit_or, hi, Bool.or_true])
      · rw [B.zero p (by omega) hp]; exact without_zero.2 fun i hi => by simp at hi
  · rintro ⟨ha, hb⟩ p hp
    unfold orG
    by_cases e : p < n
    · rw [cut_lt e]
      refine without_zero.2 fun i hi => ?_
      rw [Nat.testBit_or, Bool.or_eq_true] at hi
      rcases hi with hi | hi
      · exact without_zero.1 (ha p hp) i hi
      · exact without_zero.1 (hb p hp) i hi
    · rw [cut_ge e]; exact without_zero.2 fun i hi => by simp at hi
theorem eqG_nat {n : Nat} {a b : Nat → Nat} : eqG n n (fun p => (a p : Int)) (fun p => (b p : Int)) = true ↔ ∀ p, p < 5 → a p = b p := by
  rw [eqG_iff]
  constructor
  · rintro ⟨_, h⟩ p hp; have := h p hp; omega
  · intro h; exact ⟨rfl, fun p hp => by rw [h p hp]⟩
/-- Comparing graphs gives this. -/
theorem equal_hV {n : Nat} {a b : Nat → Nat} {r : Bool} (h : r = true ↔ ∀ p, p < 5 → a p = b p) (W : World) : (Op.equalIn 10000 24 (hV n a) (hV n b)).run Tryd.prog W = .ok r W := by
  have := equal_graph n n (fun p => (a p : Int)) (fun p => (b p : Int)) W
  rw [show eqG n n (fun p => (a p : Int)) (fun p => (b p : Int)) = r from by
    rw [Bool.eq_iff_iff, eqG_nat, h]] at this
  exact this
end Go.Proofs.YtmlgbaogkbfklaaDoor
