/- ExprPermutes, plain: what the loops of the law lay out. -/
import Derived.Test.YthogcbffnbhalaaDoorExPerm
namespace Go.Proofs.YthogcbffnbhalaaDoor
set_option linter.unusedVariables false

/-- What process p of the turned scene hears behind x rounds of the inner loop, as a number. -/
def rowN (Hs pi : List Int) (p : Nat) : Nat → Nat
  | 0 => 0
  | x + 1 => rowN Hs pi p x ||| (if bitS (nth Hs p) (x : Int) = true then 2 ^ (nth pi x).toNat else 0)
theorem rowN_lt {Hs pi : List Int} {p n : Nat} (h5 : ∀ x, x < n → (nth pi x).toNat < 5) : ∀ x, x ≤ n → rowN Hs pi p x < 2 ^ 5
  | 0, _ => by unfold rowN; decide
  | x + 1, hx => by
    unfold rowN
    refine Nat.or_lt_two_pow (rowN_lt h5 x (by omega)) ?_
    split
    · exact Nat.pow_lt_pow_right (by omega) (h5 x (by omega))
    · decide
theorem rowN_bit {Hs pi : List Int} {p : Nat} : ∀ (x y : Nat), (rowN Hs pi p x).testBit y = true ↔ ∃ i, i < x ∧ bitS (nth Hs p) (i : Int) = true ∧ (nth pi i).toNat = y
  | 0, y => by
    unfold rowN
    rw [Nat.zero_testBit]
    constructor
    · intro h; cases h
    · rintro ⟨i, hi, _⟩; omega
  | x + 1, y => by
    unfold rowN
    rw [Nat.testBit_or, Bool.or_eq_true, rowN_bit x y]
    constructor
    · rintro (⟨i, hi, h⟩ | h)
      · exact ⟨i, by omega, h⟩
      · split at h
        · rename_i hb
          rw [Nat.testBit_two_pow] at h
          exact ⟨x, by omega, hb, of_decide_eq_true h⟩
        · rw [Nat.zero_testBit] at h; cases h
    · rintro ⟨i, hi, hb, hy⟩
      by_cases e : i = x
      · subst e
        right
        rw [if_pos hb, Nat.testBit_two_pow]
        exact decide_eq_true hy
      · exact .inl ⟨i, by omega, hb, hy⟩
theorem bitS_nat (a b : Nat) : bitS (a : Int) (b : Int) = a.testBit b := by
  unfold bitS
  rw [Int.toNat_natCast, Nat.testBit_eq_decide_div_mod_eq]
  rw [Bool.eq_iff_iff, decide_eq_true_iff, decide_eq_true_iff]
  have : ((a : Int) / 2 ^ b % 2) = ((a / 2 ^ b % 2 : Nat) : Int) := by simp
  rw [this]; omega
/-- The law's inner operation. -/
theorem bit_num (h : Int) (x : Nat) : h / 2 ^ x % 2 = if bitS h (x : Int) = true then 1 else 0 := by
  unfold bitS
  rw [Int.toNat_natCast]
  split
  · rename_i h1; exact of_decide_eq_true h1
  · rename_i h1
    have h2 := Int.emod_nonneg (h / 2 ^ x) (show (2 : Int) ≠ 0 by decide)
    have h3 := Int.emod_lt_of_pos (h / 2 ^ x) (show (0 : Int) < 2 by decide)
    have h4 : ¬ h / 2 ^ x % 2 = 1 := fun e => h1 (decide_eq_true e)
    omega
/-- The state behind p rounds of the outer loop and x of the inner one: rows A (of In), B (of Out), H (of Hears). -/
structure PermI (s : Sc) (n : Nat) (pi : List Int) (p : Nat) (A B H : List Int) : Prop where
  la : A.length = n
  lb : B.length = n
  lh : H.length = 5
  ia : ∀ i, i < p → nth A (nth pi i).toNat = nth s.inl i
  ib : ∀ i, i < p → nth B (nth pi i).toNat = nth s.outl i
  ih : ∀ i, i < p → nth H (nth pi i).toNat = (rowN s.hears pi i n : Int)
  iz : ∀ i, p ≤ i → i < n → nth H (nth pi i).toNat = 0
theorem nth_set_eqI {l : List Int} {k : Nat} {x : Int} (h : k < l.length) : nth (l.set k x) k = x := by simp [nth, h]
theorem nth_set_neI {l : List Int} {k j : Nat} {x : Int} (h : k ≠ j) : nth (l.set k x) j = nth l j := by
  unfold nth
  rw [List.getD_eq_getElem?_getD, List.getElem?_set_ne h, ← List.getD_eq_getElem?_getD]
section
variable {s : Sc} {n : Nat} {pi : List Int} {p : Nat} {A B H : List Int}
theorem pi_ne (hp : pi.Perm ((List.range n).map fun k : Nat => (k : Int))) {i j : Nat} (hi : i < n) (hj : j < n) (h : i ≠ j) : (nth pi i).toNat ≠ (nth pi j).toNat := fun e => by
  have h0 : ∀ k, k < n → 0 ≤ nth pi k := fun k hk => by
    have hl : pi.length = n := by have := hp.length_eq; simpa using this
    have hm : nth pi k ∈ pi := by
      simp only [nth, List.getElem?_eq_getElem (show k < pi.length by omega), List.getD_eq_getElem?_getD, Option.getD_some]
      exact List.getElem_mem _
    obtain ⟨q, _, e⟩ := List.mem_map.1 (hp.mem_iff.1 hm)
    omega
  have h1 := h0 i hi
  have h2 := h0 j hj
  exact h (perm_inj hp hi hj (by omega))
theorem PermI.step (h : PermI s n pi p A B H) (hp : pi.Perm ((List.range n).map fun k : Nat => (k : Int))) (h5 : n ≤ 5) (hq : ∀ i, i < n → (nth pi i).toNat < n) (hlt : p < n) :
    PermI s n pi (p + 1) (A.set (nth pi p).toNat (nth s.inl p)) (B.set (nth pi p).toNat (nth s.outl p)) (H.set (nth pi p).toNat (rowN s.hears pi p n : Int)) := by
  have hqp := hq p hlt
  refine ⟨by rw [List.length_set]; exact h.la, by rw [List.length_set]; exact h.lb, by rw [List.length_set]; exact h.lh, fun i hi => ?_, fun i hi => ?_, fun i hi => ?_, fun i hi hin => ?_⟩
  · by_cases e : i = p
    · subst e; exact nth_set_eqI (by rw [h.la]; exact hqp)
    · rw [nth_set_neI (pi_ne hp hlt (by omega) (fun e2 => e e2.symm))]; exact h.ia i (by omega)
  · by_cases e : i = p
    · subst e; exact nth_set_eqI (by rw [h.lb]; exact hqp)
    · rw [nth_set_neI (pi_ne hp hlt (by omega) (fun e2 => e e2.symm))]; exact h.ib i (by omega)
  · by_cases e : i = p
    · subst e; exact nth_set_eqI (by rw [h.lh]; omega)
    · rw [nth_set_neI (pi_ne hp hlt (by omega) (fun e2 => e e2.symm))]; exact h.ih i (by omega)
  · rw [nth_set_neI (pi_ne hp hlt hin (by omega))]; exact h.iz i (by omega) hin
/-- The turned scene is a permuted one. -/
theorem PermI.done (h : PermI s n pi n A B H) (hp : pi.Perm ((List.range n).map fun k : Nat => (k : Int))) (h5 : n ≤ 5) (hn : s.n = (n : Int)) (h1 : s.inl.length = n) (h2 : s.outl.length = n) :
    PermS s { n := n, inl := A, outl := B, hears := H, vars := [] } n pi := by
  have hl : pi.length = n := by have := hp.length_eq; simpa using this
  refine ⟨hn, rfl, hl, hp, h1, h.la, h2, h.lb, fun p hlt => h.ia p hlt, fun p hlt => h.ib p hlt, fun p x hlt hx => ?_⟩
  have e : ∀ k, k < n → nth pi k = ((nth pi k).toNat : Int) := fun k hk => by
    have hm : nth pi k ∈ pi := by
      simp only [nth, List.getElem?_eq_getElem (show k < pi.length by omega), List.getD_eq_getElem?_getD, Option.getD_some]
      exact List.getElem_mem _
    obtain ⟨q, _, e⟩ := List.mem_map.1 (hp.mem_iff.1 hm)
    omega
  show bitS (nth H (nth pi p).toNat) (nth pi x) = _
  rw [h.ih p hlt, e x hx, bitS_nat, Bool.eq_iff_iff, rowN_bit]
  constructor
  · rintro ⟨i, hi, hb, hy⟩
    have : i = x := Decidable.byContradiction fun hne => pi_ne hp hi hx hne hy
    subst this; exact hb
  · intro hb; exact ⟨x, hx, hb, rfl⟩
end
end Go.Proofs.YthogcbffnbhalaaDoor

