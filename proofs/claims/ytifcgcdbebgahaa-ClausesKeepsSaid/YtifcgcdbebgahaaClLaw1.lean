/- The laws of resolvents. -/
import Derived.Test.YtifcgcdbebgahaaClLaw0
namespace Go.Proofs.Ytifcgcdbebgahaa
set_option linter.unusedVariables false
open Go.RowKit

theorem IsModel.at {n : Int} {m : List Int} (h : IsModel n m) {x : Int} (hx : x ∈ m) : ∃ k, k < m.length ∧ nth m k = x ∧ (x = (k : Int) + 1 ∨ x = -((k : Int) + 1)) := by
  obtain ⟨k, hk, rfl⟩ := List.getElem_of_mem hx
  have := h.2 k hk
  unfold modelAt at this
  rw [nth_eq hk] at this
  simp only [Bool.or_eq_true, decide_eq_true_eq] at this
  exact ⟨k, hk, nth_eq hk, by omega⟩
theorem IsModel.wf {n : Int} {m : List Int} (h : IsModel n m) (hn : n ≤ 100000) : ∀ z ∈ m, WF z := fun z hz => by
  obtain ⟨k, hk, _, e⟩ := h.at hz
  have := h.1
  exact WF.small (by omega)
theorem IsModel.apart {n : Int} {m : List Int} (h : IsModel n m) {x : Int} (h1 : x ∈ m) (h2 : -x ∈ m) : False := by
  obtain ⟨k, hk, e1, e2⟩ := h.at h1
  obtain ⟨j, hj, e3, e4⟩ := h.at h2
  have : j = k := by omega
  subst this
  omega
theorem IsModel.either {n : Int} {m : List Int} (h : IsModel n m) {x : Int} (hg : goodP n x = true) : x ∈ m ∨ -x ∈ m := by
  have hb := goodP_iff.1 hg
  have hl := h.1
  obtain ⟨k, hk⟩ : ∃ k : Nat, (k : Int) + 1 = if x < 0 then -x else x := ⟨((if x < 0 then -x else x) - 1).toNat, by split <;> omega⟩
  have hkm : k < m.length := by split at hk <;> omega
  have := h.2 k hkm
  unfold modelAt at this
  simp only [Bool.or_eq_true, decide_eq_true_eq] at this
  have hm := nth_mem hkm
  split at hk
  · rcases this with e | e
    · exact .inr (by rw [e] at hm; rw [← hk]; exact hm)
    · exact .inl (by rw [e] at hm; rw [show x = -(k : Int) - 1 by omega]; exact hm)
  · rcases this with e | e
    · exact .inl (by rw [e] at hm; rw [← hk]; exact hm)
    · exact .inr (by rw [e] at hm; rw [show -x = -(k : Int) - 1 by omega]; exact hm)
theorem clause_wider {n k : Int} {l : List Int} (hnk : n ≤ k) (h : clauseE n l = 0) : clauseE k l = 0 := by
  rw [clauseE_zero] at h ⊢
  intro j hj
  obtain ⟨h1, h2⟩ := h j hj
  have := goodP_iff.1 h1
  exact ⟨goodP_iff.2 (by omega), h2⟩
theorem without_one {n v : Int} {l : List Int} (hn : n ≤ 100000) (hg : ∀ z ∈ l, goodP n z = true) {z : Int} : z ∈ withoutP l [v] ↔ z ∈ l ∧ -z ≠ v := by
  unfold withoutP
  rw [List.mem_filter]
  constructor
  · rintro ⟨h1, h2⟩
    rw [neg_wrap hn (hg z h1)] at h2
    exact ⟨h1, by simpa [memB] using h2⟩
  · rintro ⟨h1, h2⟩
    refine ⟨h1, ?_⟩
    rw [neg_wrap hn (hg z h1)]
    simpa [memB] using h2
/-- A model of two clauses is one of their resolvent. -/
theorem cut_true {m x y l : List Int} {v : Int} (hm : IsModel 14 m) (h1 : clauseE 14 x = 0) (h2 : clauseE 14 y = 0) (h : resolveS x y v = (l, 0)) (tx : trueP x m = true) (ty : trueP y m = true) : trueP l m = true := by
  have gx := (clause_sortV (by omega) h1).2
  have gy := (clause_sortV (by omega) h2).2
  have w1 := clause_wider (k := 4096) (by omega) h1
  have w2 := clause_wider (k := 4096) (by omega) h2
  unfold resolveS at h
  rw [if_neg (by simp [w1]), if_neg (by simp [w2])] at h
  split at h
  · injection h with _ h; cases h
  · split at h
    · injection h with _ h; cases h
    · split at h
      · injection h with _ h; cases h
      · rename_i hv _ d hs
        injection h with h _
        subst h
        obtain ⟨_, hd⟩ := sortedP_inv (n := 14) (by omega) (fun z hz => by
          rcases List.mem_append.1 hz with e | e
          · exact gx z ((without_one (by omega) gx).1 e).1
          · exact gy z ((without_one (by omega) gy).1 e).1) hs
        obtain ⟨a, ha, ham⟩ := trueP_iff.1 tx
        obtain ⟨b, hb, hbm⟩ := trueP_iff.1 ty
        by_cases e : v ∈ m
        · refine trueP_iff.2 ⟨b, (hd b).2 (List.mem_append.2 (.inr ((without_one (by omega) gy).2 ⟨hb, fun e2 => ?_⟩))), hbm⟩
          exact hm.apart e (by rw [← e2, Int.neg_neg]; exact hbm)
        · refine trueP_iff.2 ⟨a, (hd a).2 (List.mem_append.2 (.inl ((without_one (by omega) gx).2 ⟨ha, fun e2 => ?_⟩))), ham⟩
          exact e (by rw [show v = a by omega]; exact ham)
theorem cut_none {x y l : List Int} {v e : Int} (h1 : clauseE 14 x = 0) (h2 : clauseE 14 y = 0) (hv : 1 ≤ v ∧ v ≤ 14) (h : resolveS x y v = (l, e)) : (e == 6) = (!memB x v || !memB y (-v)) := by
  have w1 := clause_wider (k := 4096) (by omega) h1
  have w2 := clause_wider (k := 4096) (by omega) h2
  unfold resolveS at h
  rw [if_neg (by simp [w1]), if_neg (by simp [w2]), if_neg (by omega)] at h
  cases ha : memB x v with
  | false => rw [if_pos (.inl ha)] at h; injection h with _ h; subst h; rfl
  | true =>
    cases hb : memB y (-v) with
    | false => rw [if_pos (.inr hb)] at h; injection h with _ h; subst h; rfl
    | true =>
      rw [if_neg (by rw [ha, hb]; simp)] at h
      split at h <;> (injection h with _ h; subst h; rfl)
theorem sub_true {x y m : List Int} (h : subP x y = true) (hx : trueP x m = true) : trueP y m = true := by
  obtain ⟨z, h1, h2⟩ := trueP_iff.1 hx
  unfold subP at h
  rw [List.all_eq_true] at h
  exact trueP_iff.2 ⟨z, memB_iff.1 (h z h1), h2⟩
theorem sub_self (x : List Int) : subP x x = true := by
  unfold subP
  rw [List.all_eq_true]
  exact fun z hz => memB_iff.2 hz
end Go.Proofs.Ytifcgcdbebgahaa
