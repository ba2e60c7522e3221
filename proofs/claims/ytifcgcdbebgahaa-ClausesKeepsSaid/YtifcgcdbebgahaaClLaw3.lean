/- The law of normal forms. -/
import Derived.Test.YtifcgcdbebgahaaClN4
import Derived.Test.YtifcgcdbebgahaaClLaw2
namespace Go.Proofs.Ytifcgcdbebgahaa
set_option linter.unusedVariables false
open Go.RowKit

theorem norm_ind {P : List (List Int) → Prop} {ll : List (List Int)} (h0 : P []) (hs : ∀ acc r d, r ∈ ll → P acc → sortedP r = some d → d ∉ acc → P (acc ++ [d])) : P (normP ll) := by
  have key : ∀ k, k ≤ ll.length → P (normP (ll.take k)) := by
    intro k
    induction k with
    | zero => intro _; exact h0
    | succ k ih =>
      intro hk
      have hlt : k < ll.length := hk
      rw [norm_succ hlt]
      have ih := ih (by omega)
      unfold nextN
      cases hso : sortedP (nthL ll k) with
      | none => exact ih
      | some d =>
        by_cases hd : d ∈ normP (ll.take k)
        · simp only [if_pos hd]; exact ih
        · simp only [if_neg hd]; exact hs _ _ d (nthL_mem hlt) ih hso hd
  have := key ll.length (Nat.le_refl _)
  rwa [List.take_length] at this
theorem norm_from {ll : List (List Int)} : ∀ d ∈ normP ll, ∃ r ∈ ll, sortedP r = some d :=
  norm_ind (P := fun acc => ∀ d ∈ acc, ∃ r ∈ ll, sortedP r = some d) (by simp) (fun acc r d hr ih hs _ z hz => by
    rcases List.mem_append.1 hz with h | h
    · exact ih z h
    · rw [List.mem_singleton.1 h]; exact ⟨r, hr, hs⟩)
theorem norm_nodup {ll : List (List Int)} : (normP ll).Nodup :=
  norm_ind (P := List.Nodup) List.nodup_nil (fun acc r d _ ih _ hd => List.nodup_append.2 ⟨ih, by simp, fun a ha b hb => by rw [List.mem_singleton.1 hb]; exact fun e => hd (e ▸ ha)⟩)
theorem norm_mono {ll : List (List Int)} {k : Nat} (hk : k < ll.length) {d : List Int} (h : d ∈ normP (ll.take k)) : d ∈ normP (ll.take (k + 1)) := by
  rw [norm_succ hk]
  split
  · exact h
  · exact List.mem_append.2 (.inl h)
theorem norm_has {ll : List (List Int)} {r d : List Int} (hr : r ∈ ll) (hs : sortedP r = some d) : d ∈ normP ll := by
  obtain ⟨i, hi, rfl⟩ := List.getElem_of_mem hr
  have h1 : d ∈ normP (ll.take (i + 1)) := by
    rw [norm_succ hi, nthL_eq hi]
    unfold nextN
    rw [hs]
    by_cases hd : d ∈ normP (ll.take i)
    · simp only [if_pos hd]; exact hd
    · simp only [if_neg hd]; exact List.mem_append.2 (.inr (List.mem_singleton.2 rfl))
  have h2 : ∀ m, i + 1 + m ≤ ll.length → d ∈ normP (ll.take (i + 1 + m)) := by
    intro m
    induction m with
    | zero => intro _; exact h1
    | succ m ih => intro hm; exact norm_mono (k := i + 1 + m) (by omega) (ih (by omega))
  obtain ⟨m, hm⟩ : ∃ m, ll.length = i + 1 + m := ⟨ll.length - (i + 1), by omega⟩
  have := h2 m (by omega)
  rwa [← hm, List.take_length] at this
theorem norm_length (ll : List (List Int)) : (normP ll).length ≤ ll.length := by
  have := norm_len ll ll.length
  rwa [List.take_length] at this
/-- A list without a literal and its negation can be sorted. -/
theorem sorted_some {n : Int} (hn : n ≤ 100000) {c : List Int} (hc : ∀ z ∈ c, goodP n z = true) (h : ∀ x ∈ c, -x ∉ c) : ∃ d, sortedP c = some d := by
  have key : ∀ k, k ≤ c.length → ∃ d, sortedP (c.take k) = some d := by
    intro k
    induction k with
    | zero => intro _; exact ⟨[], rfl⟩
    | succ k ih =>
      intro hk
      have hlt : k < c.length := hk
      obtain ⟨d, hd⟩ := ih (by omega)
      have hx := hc _ (nth_mem hlt)
      obtain ⟨e, he⟩ := sorted_more hn (l := c.take k) (fun z hz => hc z (List.mem_of_mem_take hz)) hx hd (by
        cases hl : litOf (c.take k) (varP (nth c k)) with
        | none => exact .inl rfl
        | some y =>
          right
          obtain ⟨h1, h2⟩ := litOf_some hl
          have hy := List.mem_of_mem_take h1
          rcases (var_same hn hx (hc y hy)).1 h2.symm with e | e
          · rw [e]
          · exact absurd (e ▸ hy) (h _ (nth_mem hlt)))
      exact ⟨e, by rw [sorted_succ hlt, hd]; exact he⟩
  have := key c.length (Nat.le_refl _)
  rwa [List.take_length] at this
theorem sortV_neg {n : Int} (hn : n ≤ 100000) {d : List Int} (hd : SortV d) (hg : ∀ z ∈ d, goodP n z = true) : ∀ x ∈ d, -x ∉ d := fun x hx h => by
  have := sortV_unique hd h hx (varP_neg hn (hg x hx))
  have := (goodP_iff.1 (hg x hx)).1
  omega
theorem sortV_eq {d e : List Int} (hd : SortV d) (he : SortV e) (h : ∀ z, z ∈ e ↔ z ∈ d) : e = d := by
  have n1 : d.Nodup := hd.imp fun {a b} h e => by rw [e] at h; omega
  have n2 : e.Nodup := he.imp fun {a b} h e => by rw [e] at h; omega
  exact List.Perm.eq_of_pairwise (le := fun a b => varP a < varP b) (fun a b _ _ h1 h2 => by omega) he hd ((List.perm_ext_iff_of_nodup n2 n1).2 h)
theorem sorted_self {n : Int} (hn : n ≤ 100000) {d : List Int} (hd : SortV d) (hg : ∀ z ∈ d, goodP n z = true) : sortedP d = some d := by
  obtain ⟨e, he⟩ := sorted_some hn hg (sortV_neg hn hd hg)
  obtain ⟨h1, h2⟩ := sortedP_inv hn hg he
  rw [he, sortV_eq hd h1 h2]
/-- A normal form. -/
structure NF (n : Int) (ll N : List (List Int)) : Prop where
  rows : ∀ d ∈ N, SortV d ∧ ∀ z ∈ d, goodP n z = true
  nodup : N.Nodup
  len : N.length ≤ ll.length
  short : ∀ d ∈ N, ∃ r ∈ ll, d.length ≤ r.length
theorem norm_nf {n : Int} (hn : n ≤ 100000) {ll : List (List Int)} (hg : ∀ r ∈ ll, ∀ z ∈ r, goodP n z = true) : NF n ll (normP ll) := by
  refine ⟨fun d hd => ?_, norm_nodup, norm_length ll, fun d hd => ?_⟩
  · obtain ⟨r, hr, hs⟩ := norm_from d hd
    obtain ⟨h1, h2⟩ := sortedP_inv hn (hg r hr) hs
    exact ⟨h1, fun z hz => hg r hr z ((h2 z).1 hz)⟩
  · obtain ⟨r, hr, hs⟩ := norm_from d hd
    exact ⟨r, hr, sorted_length hs⟩
theorem norm_idem {n : Int} (hn : n ≤ 100000) {ll N : List (List Int)} (h : NF n ll N) : normP N = N := by
  have key : ∀ k, k ≤ N.length → normP (N.take k) = N.take k := by
    intro k
    induction k with
    | zero => intro _; rfl
    | succ k ih =>
      intro hk
      have hlt : k < N.length := hk
      have hm := h.rows _ (nthL_mem hlt)
      rw [norm_succ hlt, ih (by omega)]
      unfold nextN
      rw [sorted_self hn hm.1 hm.2]
      have hnot : nthL N k ∉ N.take k := fun hmem => by
        obtain ⟨i, hi, e⟩ := List.getElem_of_mem hmem
        rw [List.length_take] at hi
        rw [List.getElem_take, nthL_eq hlt] at e
        have := List.pairwise_iff_getElem.1 h.nodup i k (by omega) hlt (by omega)
        exact this e
      simp only [if_neg hnot]
      rw [take_nthL hlt]
  have := key N.length (Nat.le_refl _)
  rwa [List.take_length] at this
theorem norm_true {n : Int} (hn : n ≤ 100000) {ll : List (List Int)} {m : List Int} (hg : ∀ r ∈ ll, ∀ z ∈ r, goodP n z = true) (hm : IsModel n m) : (∀ d ∈ normP ll, trueP d m = true) ↔ ∀ r ∈ ll, trueP r m = true := by
  constructor
  · intro h r hr
    cases hs : sortedP r with
    | none =>
      have : ¬ ∀ x ∈ r, -x ∉ r := fun hno => by
        obtain ⟨d, hd⟩ := sorted_some hn (hg r hr) hno
        rw [hs] at hd; cases hd
      obtain ⟨x, hx⟩ := Classical.not_forall.1 this
      obtain ⟨hx, hx2⟩ := Classical.not_imp.1 hx
      have hx2 := Classical.not_not.1 hx2
      rcases hm.either (hg r hr x hx) with e | e
      · exact trueP_iff.2 ⟨x, hx, e⟩
      · exact trueP_iff.2 ⟨-x, hx2, e⟩
    | some d =>
      obtain ⟨_, h2⟩ := sortedP_inv hn (hg r hr) hs
      obtain ⟨z, h3, h4⟩ := trueP_iff.1 (h d (norm_has hr hs))
      exact trueP_iff.2 ⟨z, (h2 z).1 h3, h4⟩
  · intro h d hd
    obtain ⟨r, hr, hs⟩ := norm_from d hd
    obtain ⟨_, h2⟩ := sortedP_inv hn (hg r hr) hs
    obtain ⟨z, h3, h4⟩ := trueP_iff.1 (h r hr)
    exact trueP_iff.2 ⟨z, (h2 z).2 h3, h4⟩
theorem nf_ok {n : Int} {ll N : List (List Int)} (h0 : sizesS ⟨n, ll⟩ = 0) (h : NF n ll N) : COk ⟨n, N⟩ := by
  obtain ⟨⟨a, b⟩, c⟩ := sizesS_zero.1 h0
  dsimp only at a b c
  exact ⟨a, b, Nat.le_trans h.len c, fun r hr => SortV.clause (n := n) (by omega) (h.rows r hr).1 (h.rows r hr).2⟩
/-- The answer of Normal, where there is no error. -/
theorem normal_zero {n : Int} {ll : List (List Int)} {x : Mx} (h : normalS ⟨n, ll⟩ = (x, 0)) : sizesS ⟨n, ll⟩ = 0 ∧ (∀ r ∈ ll, ∀ z ∈ r, goodP n z = true) ∧ x = ⟨n, normP ll⟩ := by
  unfold normalS at h
  split at h
  · rename_i hne; injection h with _ h; exact absurd h hne
  · rename_i hz
    split at h
    · injection h with _ h; cases h
    · rename_i hb
      injection h with h _
      exact ⟨Classical.not_not.1 hz, badN_false.1 (by cases e : badN n ll with
        | false => rfl
        | true => exact absurd e hb), h.symm⟩
theorem normal_nf {n : Int} {ll N : List (List Int)} (h0 : sizesS ⟨n, ll⟩ = 0) (h : NF n ll N) : normalS ⟨n, N⟩ = (⟨n, N⟩, 0) := by
  have hc : n ≤ 4096 := (sizesS_zero.1 h0).1.2
  have h1 := checkC_zero (checkC_ok.2 (nf_ok h0 h))
  have h2 := normalS_ok h1 (badN_false.2 fun r hr => (h.rows r hr).2)
  dsimp only at h2
  rw [h2, norm_idem (n := n) (by omega) h]
end Go.Proofs.Ytifcgcdbebgahaa
