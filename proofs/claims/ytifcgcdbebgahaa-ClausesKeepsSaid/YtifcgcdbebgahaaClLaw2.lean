/- The laws of propagation. -/
import Derived.Test.YtifcgcdbebgahaaClLaw1
namespace Go.Proofs.Ytifcgcdbebgahaa
set_option linter.unusedVariables false
open Go.RowKit

theorem stepFrom_cases {l : List (List Int)} {lits : List Int} : ∀ m k, l.length - k = m → (stepFrom l lits k = (-1, []) ∧ ∀ j, k ≤ j → j < l.length → trueP (nthL l j) lits = true ∨ 2 ≤ (withoutP (nthL l j) lits).length) ∨
    ∃ j, j < l.length ∧ trueP (nthL l j) lits = false ∧ (withoutP (nthL l j) lits).length < 2 ∧ stepFrom l lits k = ((j : Int), withoutP (nthL l j) lits) := by
  intro m
  induction m with
  | zero => intro k hk; exact .inl ⟨stepFrom_end (by omega), fun j h1 h2 => by omega⟩
  | succ m ih =>
    intro k hk
    have hlt : k < l.length := by omega
    have more : stepFrom l lits k = stepFrom l lits (k + 1) → (trueP (nthL l k) lits = true ∨ 2 ≤ (withoutP (nthL l k) lits).length) → (stepFrom l lits k = (-1, []) ∧ ∀ j, k ≤ j → j < l.length → trueP (nthL l j) lits = true ∨ 2 ≤ (withoutP (nthL l j) lits).length) ∨
        ∃ j, j < l.length ∧ trueP (nthL l j) lits = false ∧ (withoutP (nthL l j) lits).length < 2 ∧ stepFrom l lits k = ((j : Int), withoutP (nthL l j) lits) := by
      intro e hk2
      rw [e]
      rcases ih (k + 1) (by omega) with ⟨h1, h2⟩ | h
      · refine .inl ⟨h1, fun j h3 h4 => ?_⟩
        by_cases e : j = k
        · rw [e]; exact hk2
        · exact h2 j (by omega) h4
      · exact .inr h
    cases ht : trueP (nthL l k) lits with
    | true => exact more (stepFrom_true hlt ht) (.inl ht)
    | false =>
      by_cases h3 : (withoutP (nthL l k) lits).length < 2
      · exact .inr ⟨k, hlt, ht, h3, stepFrom_hit hlt ht h3⟩
      · exact more (stepFrom_more hlt ht h3) (.inr (by omega))
/-- A step: none, or a clause with at most one open literal. -/
theorem step_cases (l : List (List Int)) (lits : List Int) : ((stepP l lits).1 = -1 ∧ ∀ j, j < l.length → trueP (nthL l j) lits = true ∨ 2 ≤ (withoutP (nthL l j) lits).length) ∨
    ∃ j, j < l.length ∧ (stepP l lits).1 = (j : Int) ∧ trueP (nthL l j) lits = false ∧ withoutP (nthL l j) lits = (stepP l lits).2 ∧ (stepP l lits).2.length < 2 := by
  rcases stepFrom_cases (l := l) (lits := lits) _ 0 rfl with ⟨h, h2⟩ | ⟨j, hj, ht, h2, h⟩
  · exact .inl ⟨by unfold stepP; rw [h], fun j hj => h2 j (Nat.zero_le _) hj⟩
  · exact .inr ⟨j, hj, by unfold stepP; rw [h], ht, by unfold stepP; rw [h], by unfold stepP; rw [h]; exact h2⟩
theorem units_ind {l : List (List Int)} (P : List Int → List Int → Prop) (hs : ∀ lits rs j y, P lits rs → j < l.length → trueP (nthL l j) lits = false → withoutP (nthL l j) lits = [y] → P (lits ++ [y]) (rs ++ [(j : Int)])) :
    ∀ f lits rs, openN l lits ≤ f → P lits rs → ∃ lits' rs' c, unitsN l (f + 1) lits rs = ((lits', rs'), c) ∧ P lits' rs' ∧
      ((c = -1 ∧ ∀ j, j < l.length → trueP (nthL l j) lits' = true ∨ 2 ≤ (withoutP (nthL l j) lits').length) ∨ ∃ j, j < l.length ∧ c = (j : Int) ∧ trueP (nthL l j) lits' = false ∧ withoutP (nthL l j) lits' = []) := by
  intro f
  induction f with
  | zero =>
    intro lits rs ho hP
    rcases step_cases l lits with ⟨h1, h2⟩ | ⟨j, hj, h1, ht, hw⟩
    · exact ⟨lits, rs, -1, by rw [units_end (by rw [h1]; omega), h1], hP, .inl ⟨rfl, h2⟩⟩
    · exfalso
      have : 0 < openN l lits := List.countP_pos_iff.2 ⟨nthL l j, nthL_mem hj, by rw [ht]; rfl⟩
      omega
  | succ f ih =>
    intro lits rs ho hP
    rcases step_cases l lits with ⟨h1, h2⟩ | ⟨j, hj, h1, ht, hw, h3⟩
    · exact ⟨lits, rs, -1, by rw [units_end (by rw [h1]; omega), h1], hP, .inl ⟨rfl, h2⟩⟩
    · by_cases hl : (stepP l lits).2.length = 1
      · obtain ⟨y, hy⟩ : ∃ y, (stepP l lits).2 = [y] := by
          match hm : (stepP l lits).2, hl with
          | [y], _ => exact ⟨y, rfl⟩
        have hst : stepP l lits = ((j : Int), [y]) := Prod.ext h1 hy
        rw [units_go hst (Int.natCast_nonneg j)]
        have := step_open (l := l) (lits := lits) (x := y) (by rw [h1]; exact Int.natCast_nonneg j) hy
        exact ih _ _ (by omega) (hs lits rs j y hP hj ht (by rw [hw, hy]))
      · refine ⟨lits, rs, (j : Int), by rw [units_end (fun h => hl h.2), h1], hP, .inr ⟨j, hj, rfl, ht, ?_⟩⟩
        rw [hw]
        exact List.length_eq_zero_iff.1 (by omega)
/-- What propagation keeps: the assigned literals stand first, and there are as many reasons. -/
theorem units_prefix {l : List (List Int)} {x : List Int} : ∃ lits rs c, unitsP l x = ((lits, rs), c) ∧ lits.length = rs.length ∧ x <+: lits := by
  obtain ⟨lits, rs, c, h1, h2, _⟩ := units_ind (l := l) (fun a b => a.length = b.length ∧ x <+: a) (fun a b j y h _ _ _ => ⟨by simp [h.1], h.2.trans (List.prefix_append _ _)⟩) l.length x (List.replicate x.length (-1)) List.countP_le_length ⟨by simp, List.prefix_refl _⟩
  exact ⟨lits, rs, c, h1, h2⟩
/-- A model of the assigned literals and the clauses is one of what is propagated, and there is no conflict. -/
theorem units_model {n : Int} {l : List (List Int)} {x m : List Int} (hn : n ≤ 100000) (hg : ∀ r ∈ l, ∀ y ∈ r, goodP n y = true) (hm : IsModel n m) (hx : ∀ z ∈ x, z ∈ m) (ht : ∀ r ∈ l, trueP r m = true) {lits rs : List Int} {c : Int} (h : unitsP l x = ((lits, rs), c)) : (∀ z ∈ lits, z ∈ m) ∧ c = -1 := by
  have key : ∀ r ∈ l, ∀ a : List Int, (∀ z ∈ a, z ∈ m) → ∃ z, z ∈ withoutP r a ∧ z ∈ m := by
    intro r hr a ha
    obtain ⟨z, h1, h2⟩ := trueP_iff.1 (ht r hr)
    refine ⟨z, ?_, h2⟩
    unfold withoutP
    rw [List.mem_filter, neg_wrap hn (hg r hr z h1)]
    refine ⟨h1, ?_⟩
    cases e : memB a (-z) with
    | false => rfl
    | true => exact (hm.apart h2 (ha _ (memB_iff.1 e))).elim
  obtain ⟨lits', rs', c', h1, h2, h3⟩ := units_ind (l := l) (fun a b => ∀ z ∈ a, z ∈ m) (fun a b j y ha hj htj hw z hz => by
    rcases List.mem_append.1 hz with h | h
    · exact ha z h
    · obtain ⟨u, hu, hum⟩ := key _ (nthL_mem hj) a ha
      rw [hw] at hu
      rw [List.mem_singleton.1 h, ← List.mem_singleton.1 hu]; exact hum) l.length x (List.replicate x.length (-1)) List.countP_le_length hx
  have e := h.symm.trans h1
  injection e with e1 e2
  injection e1 with e3 e4
  subst e2 e3 e4
  refine ⟨h2, ?_⟩
  rcases h3 with ⟨h3, _⟩ | ⟨j, hj, _, _, hw⟩
  · exact h3
  · obtain ⟨u, hu, _⟩ := key _ (nthL_mem hj) lits h2
    rw [hw] at hu; cases hu
/-- What the reasons of propagation say. -/
structure Reasons (n : Int) (l : List (List Int)) (x lits rs : List Int) : Prop where
  len : rs.length = lits.length
  low : x.length ≤ lits.length
  ok : AOK n lits
  first : ∀ i, i < x.length → nth rs i = -1
  later : ∀ i, x.length ≤ i → i < lits.length → ∃ j : Nat, nth rs i = (j : Int) ∧ j < l.length ∧ withoutP (nthL l j) (lits.take i) = [nth lits i]
theorem units_reasons {n : Int} {l : List (List Int)} {x : List Int} (hn : n ≤ 100000) (hg : ∀ r ∈ l, ∀ y ∈ r, goodP n y = true) (hx : AOK n x) : ∃ lits rs c, unitsP l x = ((lits, rs), c) ∧ Reasons n l x lits rs ∧
      ((c = -1 ∧ ∀ j, j < l.length → trueP (nthL l j) lits = true ∨ 2 ≤ (withoutP (nthL l j) lits).length) ∨ ∃ j, j < l.length ∧ c = (j : Int) ∧ trueP (nthL l j) lits = false ∧ withoutP (nthL l j) lits = []) := by
  refine units_ind (l := l) (fun a b => Reasons n l x a b) (fun a b j y h hj ht hw => ?_) l.length x (List.replicate x.length (-1)) List.countP_le_length ⟨by simp, Nat.le_refl _, hx, fun i hi => by simp [nth, hi], fun i h1 h2 => by omega⟩
  obtain ⟨h1, h2, h3⟩ := forced_new hn (hg _ (nthL_mem hj)) ht hw
  have hl := h.len
  have hlow := h.low
  refine ⟨by simp [hl], by simp; omega, h.ok.snoc (hg _ (nthL_mem hj) y h1) h2 h3, fun i hi => ?_, fun i hi1 hi2 => ?_⟩
  · have : nth (b ++ [(j : Int)]) i = nth b i := by simp [nth, List.getElem?_append_left (show i < b.length by omega)]
    rw [this]; exact h.first i hi
  · simp at hi2
    by_cases e : i < a.length
    · have e1 : nth (b ++ [(j : Int)]) i = nth b i := by simp [nth, List.getElem?_append_left (show i < b.length by omega)]
      have e2 : nth (a ++ [y]) i = nth a i := by simp [nth, List.getElem?_append_left e]
      rw [e1, e2, List.take_append_of_le_length (by omega)]
      exact h.later i hi1 e
    · obtain rfl : i = a.length := by omega
      have e1 : nth (b ++ [(j : Int)]) a.length = j := by rw [← hl]; simp [nth]
      have e2 : nth (a ++ [y]) a.length = y := by simp [nth]
      refine ⟨j, e1, hj, ?_⟩
      rw [e2, List.take_append_of_le_length (Nat.le_refl _), List.take_length]
      exact hw
/-! the assigned clauses -/
theorem SortV.clause {n : Int} {l : List Int} (hn : n ≤ 100000) (h : SortV l) (hg : ∀ z ∈ l, goodP n z = true) : clauseE n l = 0 := by
  rw [clauseE_zero]
  intro j hj
  refine ⟨hg _ (nth_mem hj), fun h0 => ?_⟩
  have := sortV_get h (show j - 1 < j by omega) hj
  rw [varP_good hn (hg _ (nth_mem hj)), varP_good hn (hg _ (nth_mem (show j - 1 < l.length by omega)))] at this
  exact this
theorem assigned_ok {n : Int} {ll : List (List Int)} {x : List Int} (h : COk ⟨n, ll⟩) : COk ⟨n, assignP ll x⟩ := by
  have h1 : n ≤ 4096 := h.c1
  have h2 : ll.length ≤ 32768 := h.r1
  refine ⟨h.c0, h.c1, Nat.le_trans (assign_length ll x) h2, fun r hr => ?_⟩
  unfold assignP at hr
  obtain ⟨c, hc, rfl⟩ := List.mem_map.1 hr
  have hcl := h.cl c (List.mem_filter.1 hc).1
  obtain ⟨g1, g2⟩ := clause_sortV (n := n) (by omega) hcl
  exact SortV.clause (n := n) (by omega) (List.Pairwise.sublist List.filter_sublist g1) fun z hz => g2 z (List.mem_filter.1 hz).1
theorem wrong_neg {l : List (List Int)} {m : List Int} : wrongP l m < 0 ↔ ∀ r ∈ l, trueP r m = true := by
  constructor
  · intro h r hr
    cases e : trueP r m with
    | true => rfl
    | false =>
      exfalso
      obtain ⟨j, hj, rfl⟩ := List.getElem_of_mem hr
      have : ∃ k, k ≤ j ∧ trueP (nthL l k) m = false ∧ ∀ i, i < k → trueP (nthL l i) m = true := by
        have hjf : trueP (nthL l j) m = false := by rw [nthL_eq hj]; exact e
        clear e
        induction j using Nat.strongRecOn with
        | _ j ih =>
          by_cases hall : ∀ i, i < j → trueP (nthL l i) m = true
          · exact ⟨j, Nat.le_refl _, hjf, hall⟩
          · obtain ⟨i, hi⟩ := Classical.not_forall.1 hall
            obtain ⟨hij, hi⟩ := Classical.not_imp.1 hi
            have hif : trueP (nthL l i) m = false := by cases h : trueP (nthL l i) m with
              | true => exact absurd h hi
              | false => rfl
            obtain ⟨k, h1, h2⟩ := ih i hij (by omega) (List.getElem_mem _) hif
            exact ⟨k, by omega, h2⟩
      obtain ⟨k, h1, h2, h3⟩ := this
      have := wrongFrom_hit (p := fun c => trueP c m) (l := l) (k := k) (by omega) h3 h2
      unfold wrongP at h
      rw [this] at h
      omega
  · intro h
    have := wrongFrom_none (p := fun c => trueP c m) (l := l) (fun j hj => h _ (nthL_mem hj))
    unfold wrongP
    rw [this]
    omega
theorem evalS_ok {n : Int} {l : List (List Int)} {m : List Int} (h : COk ⟨n, l⟩) (hm : IsModel n m) : ∃ i, evalS ⟨n, l⟩ m = (i, decide (∀ r ∈ l, trueP r m = true), 0) := by
  unfold evalS
  rw [if_neg (by rw [checkC_ok.2 h]; simp), if_neg (by rw [show modelE (⟨n, l⟩ : Mx).cols m = 0 from hm.ok]; simp)]
  have hw := wrong_neg (l := l) (m := m)
  by_cases h0 : 0 ≤ wrongP l m
  · rw [if_pos h0, decide_eq_false (fun e => by have := hw.2 e; omega)]
    exact ⟨_, rfl⟩
  · rw [if_neg h0, decide_eq_true (hw.1 (by omega))]
    exact ⟨_, rfl⟩
/-- A model of an assignment makes clauses true exactly if it makes the assigned clauses true. -/
theorem assigned_true {n : Int} {ll : List (List Int)} {x m : List Int} (hn : n ≤ 100000) (hg : ∀ r ∈ ll, ∀ y ∈ r, goodP n y = true) (hm : IsModel n m) (hx : ∀ z ∈ x, z ∈ m) : (∀ r ∈ ll, trueP r m = true) ↔ ∀ r ∈ assignP ll x, trueP r m = true := by
  unfold assignP
  constructor
  · intro h r hr
    obtain ⟨c, hc, rfl⟩ := List.mem_map.1 hr
    have hcl := (List.mem_filter.1 hc).1
    obtain ⟨z, h1, h2⟩ := trueP_iff.1 (h c hcl)
    refine trueP_iff.2 ⟨z, ?_, h2⟩
    unfold withoutP
    rw [List.mem_filter, neg_wrap hn (hg c hcl z h1)]
    refine ⟨h1, ?_⟩
    cases e : memB x (-z) with
    | false => rfl
    | true => exact (hm.apart h2 (hx _ (memB_iff.1 e))).elim
  · intro h r hr
    cases e : trueP r x with
    | true =>
      obtain ⟨z, h1, h2⟩ := trueP_iff.1 e
      exact trueP_iff.2 ⟨z, h1, hx z h2⟩
    | false =>
      obtain ⟨z, h1, h2⟩ := trueP_iff.1 (h (withoutP r x) (List.mem_map.2 ⟨r, List.mem_filter.2 ⟨hr, by rw [e]; rfl⟩, rfl⟩))
      exact trueP_iff.2 ⟨z, (List.mem_filter.1 h1).1, h2⟩
/-- A literal is put into a model. -/
theorem IsModel.put {n y : Int} {m : List Int} (h : IsModel n m) (hg : goodP n y = true) (hn : n ≤ 100000) : IsModel n (m.set (varS y - 1).toNat y) ∧ y ∈ m.set (varS y - 1).toNat y ∧ (varS y - 1).toNat < m.length ∧ ((((varS y - 1).toNat : Nat)) : Int) = varS y - 1 ∧ ∀ z ∈ m, z ≠ -y → z ∈ m.set (varS y - 1).toNat y := by
  have hv := good_var hn hg
  have hb := goodP_iff.1 hg
  have hs := varS_small (x := y) (by omega)
  have hl := h.1
  obtain ⟨k, hk⟩ : ∃ k, k = (varS y - 1).toNat := ⟨_, rfl⟩
  have hkv : (k : Int) = varS y - 1 := by omega
  have hkl : k < m.length := by omega
  rw [← hk]
  have hy : y = (k : Int) + 1 ∨ y = -(k : Int) - 1 := by split at hs <;> omega
  refine ⟨⟨by simp [hl], fun j hj => ?_⟩, ?_, hkl, hkv, fun z hz hne => ?_⟩
  · simp at hj
    unfold modelAt
    by_cases e : j = k
    · subst e
      have : nth (m.set j y) j = y := by simp [nth, hkl]
      rw [this]
      rcases hy with e | e
      · rw [decide_eq_true e]; rfl
      · rw [decide_eq_true e]; simp
    · have : nth (m.set k y) j = nth m j := by simp [nth, List.getElem?_set_ne (fun h => e h.symm)]
      rw [this]
      exact h.2 j hj
  · exact List.mem_iff_getElem.2 ⟨k, by simpa using hkl, by simp⟩
  · obtain ⟨j, hj, e1, e2⟩ := h.at hz
    by_cases e : j = k
    · subst e
      have : z = y := by omega
      subst this
      exact List.mem_iff_getElem.2 ⟨j, by simpa using hkl, by simp⟩
    · refine List.mem_iff_getElem.2 ⟨j, by simpa using hj, ?_⟩
      rw [List.getElem_set_ne (fun h => e h.symm), ← nth_eq hj]
      exact e1
end Go.Proofs.Ytifcgcdbebgahaa
