/- What sorted gives: the law. -/
import Derived.Test.YtifcgcdbebgahaaClZd
namespace Go.Proofs.Ytifcgcdbebgahaa
set_option linter.unusedVariables false
open Go.RowKit

/-- In the order of the variables, none twice. -/
def SortV (d : List Int) : Prop := d.Pairwise fun a b => varP a < varP b
theorem insK_spec (c : List Int) (v : Int) : ∀ k, (∀ i, insK c v k ≤ i → i < k → v < varS (nth c i)) ∧ (0 < insK c v k → ¬ v < varS (nth c (insK c v k - 1)))
  | 0 => ⟨fun i _ h => by omega, fun h => by simp [insK] at h⟩
  | k + 1 => by
    have ih := insK_spec c v k
    rw [insK]
    split
    · rename_i h
      refine ⟨fun i h1 h2 => ?_, ih.2⟩
      by_cases e : i = k
      · rw [e]; exact h
      · exact ih.1 i h1 (by omega)
    · rename_i h
      exact ⟨fun i h1 h2 => by omega, fun _ => by simpa using h⟩
theorem sortV_get {d : List Int} (h : SortV d) {i j : Nat} (hij : i < j) (hj : j < d.length) : varP (nth d i) < varP (nth d j) := by
  rw [nth_eq (by omega), nth_eq hj]
  exact List.pairwise_iff_getElem.1 h i j (by omega) hj hij
theorem sortV_unique {d : List Int} (h : SortV d) {x y : Int} (hx : x ∈ d) (hy : y ∈ d) (e : varP x = varP y) : x = y := by
  obtain ⟨i, hi, rfl⟩ := List.getElem_of_mem hx
  obtain ⟨j, hj, rfl⟩ := List.getElem_of_mem hy
  rcases Nat.lt_trichotomy i j with h1 | h1 | h1
  · have := List.pairwise_iff_getElem.1 h i j hi hj h1; omega
  · subst h1; rfl
  · have := List.pairwise_iff_getElem.1 h j i hj hi h1; omega
theorem varP_neg {n x : Int} (hn : n ≤ 100000) (h : goodP n x = true) : varP (-x) = varP x := by
  have h0 := goodP_iff.1 h
  exact (var_same hn (goodP_iff.2 (by omega)) h).2 (.inr (by omega))
theorem good_neg {n x : Int} (h : goodP n x = true) : goodP n (-x) = true := by
  have h0 := goodP_iff.1 h
  exact goodP_iff.2 (by omega)
theorem insP_inv {n : Int} (hn : n ≤ 100000) {o d : List Int} {x : Int} (hs : SortV o) (hg : ∀ z ∈ o, goodP n z = true) (hx : goodP n x = true) (h : insP o x = some d) : SortV d ∧ ∀ z, z ∈ d ↔ z ∈ o ∨ z = x := by
  unfold insP at h
  rw [neg_wrap hn hx] at h
  split at h
  · cases h
  · rename_i h1
    have h1 : -x ∉ o := fun e => h1 (memB_iff.2 e)
    split at h
    · rename_i h2
      cases h
      refine ⟨hs, fun z => ⟨.inl, ?_⟩⟩
      rintro (e | rfl)
      · exact e
      · exact memB_iff.1 h2
    · rename_i h2
      have h2 : x ∉ o := fun e => h2 (memB_iff.2 e)
      injection h with h
      obtain ⟨k, hk⟩ : ∃ k, k = insK o (varS x) o.length := ⟨_, rfl⟩
      have hle := insK_le o (varS x) o.length
      obtain ⟨s1, s2⟩ := insK_spec o (varS x) o.length
      rw [← hk] at h hle s1 s2
      have hv := varP_good hn hx
      have hlo : ∀ a ∈ o.take k, varP a < varP x := by
        intro a ha
        obtain ⟨i, hi, hil, rfl⟩ := mem_take_nth.1 ha
        have hk0 : 0 < k := by omega
        have h3 := s2 hk0
        have hgk := hg _ (nth_mem (show k - 1 < o.length by omega))
        rw [← hv, ← varP_good hn hgk] at h3
        have hne : varP (nth o (k - 1)) ≠ varP x := fun e => by
          rcases (var_same hn hgk hx).1 e with e | e
          · exact h2 (e ▸ nth_mem (by omega))
          · exact h1 (by rw [e]; have := nth_mem (show k - 1 < o.length by omega); simpa using this)
        by_cases e : i = k - 1
        · rw [e]; omega
        · have := sortV_get hs (show i < k - 1 by omega) (by omega)
          omega
      have hhi : ∀ b ∈ o.drop k, varP x < varP b := by
        intro b hb
        obtain ⟨j, hj, rfl⟩ := List.getElem_of_mem hb
        rw [List.length_drop] at hj
        have h3 := s1 (k + j) (by omega) (by omega)
        have hgb := hg _ (nth_mem (show k + j < o.length by omega))
        rw [← hv, ← varP_good hn hgb, nth_eq (by omega)] at h3
        rw [List.getElem_drop]
        exact h3
      subst h
      constructor
      · unfold SortV
        rw [List.pairwise_append, List.pairwise_append]
        refine ⟨⟨List.Pairwise.sublist (List.take_sublist _ _) hs, List.pairwise_singleton _ _, fun a ha b hb => by rw [List.mem_singleton.1 hb]; exact hlo a ha⟩, List.Pairwise.sublist (List.drop_sublist _ _) hs, fun a ha b hb => ?_⟩
        rcases List.mem_append.1 ha with h3 | h3
        · have := hlo a h3; have := hhi b hb; omega
        · rw [List.mem_singleton.1 h3]; exact hhi b hb
      · intro z
        have hz : z ∈ o ↔ z ∈ o.take k ∨ z ∈ o.drop k := by
          conv => lhs; rw [← List.take_append_drop k o]
          exact List.mem_append
        rw [List.mem_append, List.mem_append, hz, List.mem_singleton]
        constructor
        · rintro ((h | h) | h)
          · exact .inl (.inl h)
          · exact .inr h
          · exact .inl (.inr h)
        · rintro ((h | h) | h)
          · exact .inl (.inl h)
          · exact .inr h
          · exact .inl (.inr h)
theorem fold_inv {n : Int} (hn : n ≤ 100000) : ∀ (c o d : List Int), SortV o → (∀ z ∈ o, goodP n z = true) → (∀ z ∈ c, goodP n z = true) → c.foldl (fun (o : Option (List Int)) x => o.bind fun d => insP d x) (some o) = some d → SortV d ∧ ∀ z, z ∈ d ↔ z ∈ o ∨ z ∈ c
  | [], o, d, hs, hg, hc, h => by cases h; exact ⟨hs, fun z => by simp⟩
  | x :: c, o, d, hs, hg, hc, h => by
    simp only [List.foldl_cons, Option.bind_some] at h
    cases hi : insP o x with
    | none => rw [hi, fold_none] at h; cases h
    | some e =>
      rw [hi] at h
      have hx := hc x (by simp)
      obtain ⟨h1, h2⟩ := insP_inv hn hs hg hx hi
      obtain ⟨h3, h4⟩ := fold_inv hn c e d h1 (fun z hz => by
        rcases (h2 z).1 hz with h | rfl
        · exact hg z h
        · exact hx) (fun z hz => hc z (by simp [hz])) h
      refine ⟨h3, fun z => ?_⟩
      rw [h4, h2, List.mem_cons]
      constructor
      · rintro ((h | h) | h)
        · exact .inl h
        · exact .inr (.inl h)
        · exact .inr (.inr h)
      · rintro (h | h | h)
        · exact .inl (.inl h)
        · exact .inl (.inr h)
        · exact .inr h
theorem sortedP_inv {n : Int} (hn : n ≤ 100000) {c d : List Int} (hc : ∀ z ∈ c, goodP n z = true) (h : sortedP c = some d) : SortV d ∧ ∀ z, z ∈ d ↔ z ∈ c := by
  obtain ⟨h1, h2⟩ := fold_inv hn c [] d List.Pairwise.nil (by simp) hc h
  exact ⟨h1, fun z => by rw [h2]; simp⟩
theorem litOf_in {d l : List Int} (hs : SortV d) (hm : ∀ z, z ∈ d ↔ z ∈ l) {x : Int} (hx : x ∈ l) : litOf l (varP x) = some x := by
  obtain ⟨z, hz⟩ := litOf_mem hx
  obtain ⟨h1, h2⟩ := litOf_some hz
  rw [hz, sortV_unique hs ((hm z).2 h1) ((hm x).2 hx) h2]
/-- One literal more: a clash. -/
theorem sorted_clash {n : Int} (hn : n ≤ 100000) {l d : List Int} {x y : Int} (hl : ∀ z ∈ l, goodP n z = true) (hx : goodP n x = true) (h : sortedP l = some d) (hy : litOf l (varP x) = some y) (hne : y ≠ x) : insP d x = none := by
  obtain ⟨h1, h2⟩ := sortedP_inv hn hl h
  obtain ⟨h3, h4⟩ := litOf_some hy
  refine insP_opp ?_
  rw [neg_wrap hn hx]
  rcases (var_same hn hx (hl y h3)).1 h4.symm with e | e
  · exact absurd e hne
  · exact memB_iff.2 ((h2 _).2 (e ▸ h3))
/-- One literal more: none. -/
theorem sorted_more {n : Int} (hn : n ≤ 100000) {l d : List Int} {x : Int} (hl : ∀ z ∈ l, goodP n z = true) (hx : goodP n x = true) (h : sortedP l = some d) (hy : litOf l (varP x) = none ∨ litOf l (varP x) = some x) : ∃ e, insP d x = some e := by
  obtain ⟨h1, h2⟩ := sortedP_inv hn hl h
  have hno : memB d (wrap64 (-x)) = false := by
    rw [neg_wrap hn hx]
    cases e : memB d (-x) with
    | false => rfl
    | true =>
      have hm := (h2 _).1 (memB_iff.1 e)
      have := litOf_in h1 h2 hm
      rw [varP_neg hn hx] at this
      rcases hy with hy | hy
      · rw [hy] at this; cases this
      · rw [hy] at this
        injection this with this
        have := (goodP_iff.1 hx).1
        omega
  cases e : memB d x with
  | true => exact ⟨_, insP_has hno e⟩
  | false => exact ⟨_, insP_new hno e⟩
theorem litV_more {l : List Int} {x : Int} (h : litOf l (varP x) = none ∨ litOf l (varP x) = some x) : (fun z => if z = varP x then some (.int .i64 x) else litV l z) = litV (l ++ [x]) := by
  rcases h with h | h
  · exact litV_snoc h
  · funext z
    unfold litV litOf at *
    rw [List.find?_append]
    by_cases e : z = varP x
    · subst e; rw [if_pos rfl, h]; rfl
    · rw [if_neg e]
      have : (varP x == z) = false := by simpa using fun h => e h.symm
      cases List.find? (fun x => varP x == z) l <;> simp [this]
theorem keys_of {d l : List Int} (hs : SortV d) (hm : ∀ z, z ∈ d ↔ z ∈ l) : (d.map varP).Pairwise (· < ·) ∧ ∀ v, v ∈ d.map varP ↔ (litV l v).isSome = true := by
  refine ⟨List.pairwise_map.2 hs, fun v => ?_⟩
  rw [litV_some, List.mem_map]
  constructor
  · rintro ⟨x, hx, rfl⟩
    obtain ⟨z, hz⟩ := litOf_mem ((hm x).1 hx)
    rw [hz]; rfl
  · intro h
    obtain ⟨z, hz⟩ := Option.isSome_iff_exists.1 h
    obtain ⟨h1, h2⟩ := litOf_some hz
    exact ⟨z, (hm z).2 h1, h2⟩
end Go.Proofs.Ytifcgcdbebgahaa
