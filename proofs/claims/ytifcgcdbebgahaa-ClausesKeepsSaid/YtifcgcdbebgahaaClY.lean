/- The law of the values of an assignment; the closure of Assign over rows. -/
import Derived.Test.YtifcgcdbebgahaaClX
namespace Go.Proofs.Ytifcgcdbebgahaa
set_option linter.unusedVariables false
open Go.RowKit
attribute [local go_sem ↓] Go.wp_at_zero Go.wp_at_succ

theorem afrom_zero {n : Int} {l : List Int} : ∀ m k, l.length - k = m → (afrom n l k = 0 ↔ ∀ j, k ≤ j → j < l.length → astep n l j = 0) := by
  intro m
  induction m with
  | zero => intro k hk; rw [afrom_end (by omega)]; exact ⟨fun _ j h1 h2 => by omega, fun _ => rfl⟩
  | succ m ih =>
    intro k hk
    have hlt : k < l.length := by omega
    by_cases hs : astep n l k = 0
    · rw [afrom_next hlt hs, ih (k + 1) (by omega)]
      constructor
      · intro h j h1 h2
        by_cases e : j = k
        · rw [e]; exact hs
        · exact h j (by omega) h2
      · exact fun h j h1 h2 => h j (by omega) h2
    · rw [afrom_err hlt rfl hs]
      exact ⟨fun h => absurd h hs, fun h => absurd (h k (Nat.le_refl _) hlt) hs⟩
/-- An assignment. -/
structure AOK (n : Int) (l : List Int) : Prop where
  good : ∀ z ∈ l, goodP n z = true
  once : ∀ i j, i < j → j < l.length → nth l i ≠ nth l j ∧ nth l i ≠ -nth l j
theorem neg_wrap {n x : Int} (hn : n ≤ 100000) (h : goodP n x = true) : wrap64 (-x) = -x := by
  have := goodP_iff.1 h
  unfold wrap64
  omega
theorem astep_iff {n : Int} {l : List Int} {k : Nat} (hn : n ≤ 100000) : astep n l k = 0 ↔ goodP n (nth l k) = true ∧ nth l k ∉ l.take k ∧ -nth l k ∉ l.take k := by
  unfold astep
  cases h : goodP n (nth l k) with
  | false => simp
  | true =>
    rw [if_neg (by simp), neg_wrap hn h]
    by_cases h1 : memB (l.take k) (nth l k) = true
    · rw [if_pos (.inl h1)]
      exact ⟨fun h => by omega, fun h => absurd (memB_iff.1 h1) h.2.1⟩
    · by_cases h2 : memB (l.take k) (-nth l k) = true
      · rw [if_pos (.inr h2)]
        exact ⟨fun h => by omega, fun h => absurd (memB_iff.1 h2) h.2.2⟩
      · rw [if_neg (by rintro (h | h); exact h1 h; exact h2 h)]
        exact ⟨fun _ => ⟨rfl, fun h => h1 (memB_iff.2 h), fun h => h2 (memB_iff.2 h)⟩, fun _ => rfl⟩
theorem mem_take_nth {l : List Int} {k : Nat} {x : Int} : x ∈ l.take k ↔ ∃ i, i < k ∧ i < l.length ∧ nth l i = x := by
  constructor
  · intro h
    obtain ⟨i, hi, rfl⟩ := List.getElem_of_mem h
    have h1 : i < k ∧ i < l.length := by rw [List.length_take] at hi; omega
    exact ⟨i, h1.1, h1.2, by rw [nth_eq h1.2, List.getElem_take]⟩
  · rintro ⟨i, h1, h2, rfl⟩
    rw [nth_eq h2]
    exact List.mem_take_iff_getElem.2 ⟨i, by omega, rfl⟩
theorem assignE_ok {n : Int} {l : List Int} (hn : n ≤ 100000) : assignE n l = 0 ↔ AOK n l := by
  unfold assignE
  rw [afrom_zero _ 0 rfl]
  constructor
  · intro h
    refine ⟨fun z hz => ?_, fun i j hij hj => ?_⟩
    · obtain ⟨j, hj, rfl⟩ := List.getElem_of_mem hz
      have := ((astep_iff hn).1 (h j (Nat.zero_le _) hj)).1
      rwa [nth_eq hj] at this
    · have := ((astep_iff hn).1 (h j (Nat.zero_le _) hj)).2
      rw [mem_take_nth, mem_take_nth] at this
      exact ⟨fun e => this.1 ⟨i, hij, by omega, e⟩, fun e => this.2 ⟨i, hij, by omega, e⟩⟩
  · intro h j _ hj
    rw [astep_iff hn, mem_take_nth, mem_take_nth]
    refine ⟨h.good _ (nth_mem hj), ?_, ?_⟩
    · rintro ⟨i, h1, h2, e⟩; exact (h.once i j h1 hj).1 e
    · rintro ⟨i, h1, h2, e⟩; exact (h.once i j h1 hj).2 e
theorem AOK.unique {n : Int} {l : List Int} (hn : n ≤ 100000) (h : AOK n l) {x y : Int} (hx : x ∈ l) (hy : y ∈ l) (he : varP x = varP y) : x = y := by
  have hc := (var_same hn (h.good x hx) (h.good y hy)).1 he
  obtain ⟨i, hi, rfl⟩ := List.getElem_of_mem hx
  obtain ⟨j, hj, rfl⟩ := List.getElem_of_mem hy
  have hgx := goodP_iff.1 (h.good _ hx)
  have hgy := goodP_iff.1 (h.good _ hy)
  rcases hc with h1 | h1
  · exact h1.symm
  · rw [← nth_eq hi, ← nth_eq hj] at *
    rcases Nat.lt_trichotomy i j with h2 | h2 | h2
    · have := (h.once i j h2 hj).2; omega
    · subst h2; omega
    · have := (h.once j i h2 hi).2; omega
theorem litOf_mem {l : List Int} {x : Int} (h : x ∈ l) : ∃ z, litOf l (varP x) = some z := by
  cases e : litOf l (varP x) with
  | some z => exact ⟨z, rfl⟩
  | none => exact absurd rfl (litOf_none e x h)
theorem val_eq {n : Int} {l : List Int} (hn : n ≤ 100000) (h : AOK n l) {y : Int} (hy : goodP n y = true) : (valOf l (varP y) == y) = memB l y := by
  have h0 := (goodP_iff.1 hy).1
  rw [Bool.eq_iff_iff, beq_iff_eq, memB_iff]
  constructor
  · intro e
    cases hl : litOf l (varP y) with
    | none => rw [valOf_zero hl] at e; exact absurd e.symm h0
    | some z => rw [valOf_some hl] at e; rw [← e]; exact (litOf_some hl).1
  · intro hm
    obtain ⟨z, hz⟩ := litOf_mem hm
    obtain ⟨h1, h2⟩ := litOf_some hz
    rw [valOf_some hz]
    exact h.unique hn h1 hm h2
theorem val_zero {n : Int} {l : List Int} (hn : n ≤ 100000) (h : AOK n l) {y : Int} (hy : goodP n y = true) : valOf l (varP y) = 0 ↔ y ∉ l ∧ -y ∉ l := by
  have h0 := goodP_iff.1 hy
  have hny : goodP n (-y) = true := goodP_iff.2 (by omega)
  have hv : varP (-y) = varP y := (var_same hn hny hy).2 (.inr (by omega))
  constructor
  · intro e
    cases hl : litOf l (varP y) with
    | none => exact ⟨fun hm => litOf_none hl y hm rfl, fun hm => litOf_none hl _ hm hv⟩
    | some z =>
      rw [valOf_some hl] at e
      have := (goodP_iff.1 (h.good z (litOf_some hl).1)).1
      exact absurd e this
  · rintro ⟨h1, h2⟩
    cases hl : litOf l (varP y) with
    | none => exact valOf_zero hl
    | some z =>
      obtain ⟨h3, h4⟩ := litOf_some hl
      rcases (var_same hn hy (h.good z h3)).1 h4.symm with rfl | rfl
      · exact absurd h3 h1
      · exact absurd h3 h2
/-- What is left of a clause. -/
def leftP (l r : List Int) : Option (List Int) := if (r.any fun y => valOf l (varP y) == y) = true then none else some (r.filter fun y => valOf l (varP y) == 0)
theorem any_val {n : Int} {l r : List Int} (hn : n ≤ 100000) (h : AOK n l) (hr : ∀ y ∈ r, goodP n y = true) : (r.any fun y => valOf l (varP y) == y) = trueP r l := by
  unfold trueP
  rw [Bool.eq_iff_iff, List.any_eq_true, List.any_eq_true]
  exact ⟨fun ⟨x, hx, e⟩ => ⟨x, hx, by rw [← val_eq hn h (hr x hx)]; exact e⟩, fun ⟨x, hx, e⟩ => ⟨x, hx, by rw [val_eq hn h (hr x hx)]; exact e⟩⟩
theorem filter_val {n : Int} {l r : List Int} (hn : n ≤ 100000) (h : AOK n l) (hr : ∀ y ∈ r, goodP n y = true) (ht : trueP r l = false) : (r.filter fun y => valOf l (varP y) == 0) = withoutP r l := by
  unfold withoutP
  refine List.filter_congr fun y hy => ?_
  have hg := hr y hy
  have h1 : y ∉ l := fun e => by rw [trueP_iff.2 ⟨y, hy, e⟩] at ht; cases ht
  rw [neg_wrap hn hg, Bool.eq_iff_iff, beq_iff_eq, val_zero hn h hg]
  simp [h1, memB]
theorem left_rows {n : Int} {l : List Int} {ll : List (List Int)} (hn : n ≤ 100000) (h : AOK n l) (hr : ∀ r ∈ ll, ∀ y ∈ r, goodP n y = true) : ll.filterMap (leftP l) = assignP ll l := by
  unfold assignP
  induction ll with
  | nil => rfl
  | cons r ll ih =>
    have ih := ih fun r' h' => hr r' (by simp [h'])
    have hg := hr r (by simp)
    have e := any_val hn h hg
    rw [List.filter_cons, List.filterMap_cons]
    unfold leftP at ih ⊢
    rw [e]
    cases ht : trueP r l with
    | true => simpa using ih
    | false => rw [filter_val hn h hg ht]; simpa using ih

set_option maxRecDepth 100000 in
set_option maxHeartbeats 2000000 in
theorem left_calls {S : Nat → Prop} {w : World} {b n P : Nat} {l r : List Int} {u : Value} (hm : MapV keyI w b (litV l) n) (hP : w.cell? ⟨P, 0, none⟩ = some (.map (some b))) (hr : Ints S w u r) (hn : r.length ≤ 1000000) (hx : ∀ y ∈ r, WF (varP y)) :
    Calls Try.prog 48 #[u, .pointer (some ⟨P, 0, none⟩)] w (Post w (PRow w.heap.size (leftP l r))) := by
  have K1 := Lib.hid ((containsInts_quiet hr (g := 49) (cp := .pointer (some ⟨P, 0, none⟩)) (fun y => valOf l (varP y) == y) (fun args w => by rfl)
    (fun W hW k hk => asg1_quiet (hm.ext hW.ext) (cell_ext hP hW.ext) (hx _ (nth_mem hk)))).mono fun _ _ h => h.take)
  have K2 := Lib.hid (fun W (hW : QW w W) => applyInts_calls (hr.ext hW.ext) hn (g := 51) (cp := .pointer (some ⟨P, 0, none⟩)) (fun y => valOf l (varP y) == 0) (fun args w => by rfl)
    (fun W' hW' k hk => asg2_quiet (hm.ext (ext_trans hW.ext hW')) (cell_ext hP (ext_trans hW.ext hW')) (hx _ (nth_mem hk))))
  obtain ⟨E, hE⟩ : ∃ E, E = leftP l r := ⟨_, rfl⟩
  rw [← hE]
  unfold leftP at hE
  obtain ⟨q, hq⟩ : ∃ q, q = r.any fun y => valOf l (varP y) == y := ⟨_, rfl⟩
  obtain ⟨d, hd⟩ : ∃ d, d = r.filter fun y => valOf l (varP y) == 0 := ⟨_, rfl⟩
  rw [← hq] at K1 hE
  rw [← hd] at K2 hE
  have HE := Lib.hid hE
  obtain ⟨au, cu, rfl, _⟩ := hr.form
  clear hm hP hr hn hx hE hq hd
  go_enter Try.func48, Try.ntmps48
  go_wp2_with fail
  refine K1.out.mono ?_
  rintro _ w2 ⟨_, rfl, hq2, rfl⟩
  clear K1
  cases q with
  | true =>
    have R : Hid (E = none) := Lib.hid (by rw [HE.out, if_pos rfl])
    go_wp2
    refine bodyPost_ret (v := .tuple #[.slice none 0 0, .bool false]) (by simp [results, Try.results48, go_sem]) rfl ?_
    rw [R.out]
    exact .mk hq2.ext rfl
  | false =>
    have R : Hid (E = some d) := Lib.hid (by rw [HE.out, if_neg (by simp)])
    go_wp2_with fail
    refine (K2.out w2 hq2).mono ?_
    rintro _ w3 ⟨u3, rfl, hb3, hI3⟩
    obtain ⟨a3, c3, rfl, _⟩ := hI3.form
    have HI3 := Lib.hid hI3
    have hs := hq2.ext.size
    have hx := ext_trans hq2.ext hb3
    clear hI3 K2 hb3
    go_wp2
    refine bodyPost_ret (v := .tuple #[.slice a3 d.length c3, .bool true]) (by simp [results, Try.results48, go_sem]) rfl ?_
    rw [R.out]
    exact .mk hx ⟨_, _, rfl, HI3.out.mono fun b hb => by omega⟩
end Go.Proofs.Ytifcgcdbebgahaa
