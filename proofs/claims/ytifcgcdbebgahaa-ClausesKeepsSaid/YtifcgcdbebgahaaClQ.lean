/- The program's Eval: the law of a model. -/
import Derived.Test.YtifcgcdbebgahaaClP
namespace Go.Proofs.Ytifcgcdbebgahaa
set_option linter.unusedVariables false
open Go.RowKit
attribute [local go_sem ↓] Go.wp_at_zero Go.wp_at_succ

theorem model_lit {m : List Int} (hm : ∀ k, k < m.length → modelAt m k = true) {x : Int} (hx : 1 ≤ varP x ∧ varP x ≤ m.length) (hg : -1000000 ≤ x ∧ x ≤ 1000000) : litP m x = memB m x := by
  have hv : varP x = if x < 0 then -x else x := by unfold varP; rw [varS_small hg]; unfold varP at hx; rw [varS_small hg] at hx; split <;> omega
  obtain ⟨k, hk⟩ : ∃ k : Nat, varP x = k + 1 := ⟨(varP x - 1).toNat, by omega⟩
  have hlt : k < m.length := by omega
  have hmk := hm k hlt
  unfold litP
  rw [hk, show ((k : Int) + 1 - 1).toNat = k by omega]
  rw [hk] at hv
  cases h : memB m x with
  | true =>
    obtain ⟨j, hj, e⟩ := List.getElem_of_mem (memB_iff.1 h)
    have hmj := hm j hj
    unfold modelAt at hmj hmk
    rw [nth_eq hj, e] at hmj
    simp only [Bool.or_eq_true, decide_eq_true_eq] at hmj hmk
    have : j = k := by split at hv <;> omega
    subst this
    rw [nth_eq hj, e]
    simp
  | false =>
    have : nth m k ≠ x := fun e => by
      rw [show memB m x = true from memB_iff.2 (e ▸ by rw [nth_eq hlt]; exact List.getElem_mem hlt)] at h
      cases h
    simp [this]
theorem model_row {m : List Int} {n : Int} (hm : ∀ k, k < m.length → modelAt m k = true) (hl : (m.length : Int) = n) (hn : n ≤ 100000) {r : List Int} (hr : ∀ x ∈ r, goodP n x = true) : r.any (litP m) = trueP r m := by
  unfold trueP
  rw [Bool.eq_iff_iff, List.any_eq_true, List.any_eq_true]
  have h : ∀ x ∈ r, litP m x = memB m x := fun x hx => by
    have h1 := good_var hn (hr x hx)
    have h2 := varP_good hn (hr x hx)
    have h3 := goodP_iff.1 (hr x hx)
    exact model_lit hm (by omega) (by omega)
  exact ⟨fun ⟨x, hx, e⟩ => ⟨x, hx, by rw [← h x hx]; exact e⟩, fun ⟨x, hx, e⟩ => ⟨x, hx, by rw [h x hx]; exact e⟩⟩
theorem wrongFrom_eq (p : List Int → Bool) (l : List (List Int)) (k : Nat) : wrongFrom p l k = if k < l.length then (if p (nthL l k) = true then wrongFrom p l (k + 1) else k) else -1 := by
  conv => lhs; rw [wrongFrom]
theorem wrongFrom_congr {p q : List Int → Bool} {l : List (List Int)} (h : ∀ r ∈ l, p r = q r) : ∀ m k, l.length - k = m → wrongFrom p l k = wrongFrom q l k := by
  intro m
  induction m with
  | zero => intro k hk; rw [wrongFrom_eq p, wrongFrom_eq q, if_neg (by omega), if_neg (by omega)]
  | succ m ih =>
    intro k hk
    have hlt : k < l.length := by omega
    rw [wrongFrom_eq p, wrongFrom_eq q, if_pos hlt, if_pos hlt, h _ (nthL_mem hlt), ih (k + 1) (by omega)]
end Go.Proofs.Ytifcgcdbebgahaa
