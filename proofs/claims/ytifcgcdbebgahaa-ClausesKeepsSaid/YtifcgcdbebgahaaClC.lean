/- Lists of clauses, in the reference: what only reads. Printed by cl41c.py. -/
import Derived.Test.YtifcgcdbebgahaaClB
namespace Go.Proofs.Ytifcgcdbebgahaa
set_option linter.unusedVariables false
open Go.RowKit
attribute [local go_sem ↓] Go.wp_at_zero Go.wp_at_succ

/-- The index of the first list that fails a test; -1 if there is none. -/
def wrongFrom (p : List Int → Bool) (l : List (List Int)) (k : Nat) : Int := if k < l.length then (if p (nthL l k) = true then wrongFrom p l (k + 1) else k) else -1
termination_by l.length - k
def wrongP (l : List (List Int)) (lits : List Int) : Int := wrongFrom (fun c => trueP c lits) l 0
theorem wrongFrom_skip {p : List Int → Bool} {l : List (List Int)} : ∀ k, k ≤ l.length → (∀ j, j < k → p (nthL l j) = true) → wrongFrom p l 0 = wrongFrom p l k := by
  intro k
  induction k with
  | zero => intro _ _; rfl
  | succ k ih =>
    intro hk hb
    rw [ih (by omega) fun j hj => hb j (by omega), wrongFrom, if_pos (by omega), if_pos (hb k (by omega))]
theorem wrongFrom_hit {p : List Int → Bool} {l : List (List Int)} {k : Nat} (hk : k < l.length) (hb : ∀ j, j < k → p (nthL l j) = true) (ht : p (nthL l k) = false) : wrongFrom p l 0 = k := by
  rw [wrongFrom_skip k (by omega) hb, wrongFrom, if_pos hk, if_neg (by rw [ht]; simp)]
theorem wrongFrom_none {p : List Int → Bool} {l : List (List Int)} (hb : ∀ j, j < l.length → p (nthL l j) = true) : wrongFrom p l 0 = -1 := by
  rw [wrongFrom_skip l.length (Nat.le_refl _) hb, wrongFrom, if_neg (by omega)]
def subP (a b : List Int) : Bool := a.all (memB b)
theorem subP_hit {a b : List Int} {k : Nat} (hk : k < a.length) (ht : memB b (nth a k) = false) : subP a b = false := by
  unfold subP; rw [List.all_eq_false]; exact ⟨_, nth_mem hk, by rw [ht]; simp⟩
theorem subP_none {a b : List Int} (hb : ∀ j, j < a.length → memB b (nth a j) = true) : subP a b = true := by
  unfold subP; rw [List.all_eq_true]
  intro x hx
  obtain ⟨j, hj, rfl⟩ := List.getElem_of_mem hx
  have := hb j hj
  rwa [nth_eq hj] at this
def amongP (l : List (List Int)) (c : List Int) : Bool := decide (c ∈ l)
theorem amongP_hit {l : List (List Int)} {c : List Int} {k : Nat} (hk : k < l.length) (ht : decide (nthL l k = c) = true) : amongP l c = true := by
  have := of_decide_eq_true ht
  exact decide_eq_true (this ▸ nthL_mem hk)
theorem amongP_none {l : List (List Int)} {c : List Int} (hb : ∀ j, j < l.length → decide (nthL l j = c) = false) : amongP l c = false := by
  refine decide_eq_false fun hm => ?_
  obtain ⟨j, hj, e⟩ := List.getElem_of_mem hm
  exact of_decide_eq_false (hb j hj) (by rw [nthL_eq hj]; exact e)

set_option maxRecDepth 100000 in
theorem refWrong_quiet {S S' : Nat → Prop} {w : World} {va vb : Value} {l : List (List Int)} {lits : List Int} (ha : Lists S w va l) (hb : Ints S' w vb lits) :
    Calls Try.prog 45 #[va, vb] w (QuietP w (.int .i64 (wrongP l lits))) := by
  obtain ⟨R, hR⟩ : ∃ R : Int, R = wrongP l lits := ⟨_, rfl⟩
  rw [← hR]
  have HIT : ∀ k, k < l.length → (∀ j, j < k → trueP (nthL l j) lits = true) → trueP (nthL l k) lits = false → Hid (R = (k : Int)) := fun k hk hb ht => Lib.hid (by rw [hR]; exact wrongFrom_hit hk hb ht)
  have END : (∀ j, j < l.length → trueP (nthL l j) lits = true) → Hid (R = -1) := fun hb => Lib.hid (by rw [hR]; exact wrongFrom_none hb)
  have HIT := Lib.hid HIT
  have END := Lib.hid END
  clear hR
  obtain ⟨a, cap, rfl, ad, l1, lm⟩ := ha.form
  unfold maxLen at lm
  obtain ⟨i0, hi, hz1, hz2, hz3⟩ := info_parts info_ints
  have HQ := Lib.hid (idx_one Try.underlying22 hi hz2 ad)
  have HC := Lib.hid ha
  clear hi hz1 hz2 hz3
  obtain ⟨b, bcap, rfl, _⟩ := hb.form
  have HB := Lib.hid hb
  clear hb
  go_enter Try.func45, Try.ntmps45
  go_wp2
  go_loopw [5] (fun i wr => ∃ k : Nat, k ≤ l.length ∧ i = .int .i64 k ∧ QW w wr ∧ Hid (∀ j, j < k → trueP (nthL l j) lits = true)) (fun i _ => l.length - (intOf i).toNat)
  case atStart => exact ⟨0, Nat.zero_le _, rfl, .refl _, Lib.hid (fun j hj => by omega)⟩
  case round =>
    obtain ⟨k, hk, rfl, hQ, hF⟩ := hrel
    by_cases hlt : k < l.length
    · have q := HQ.out k hlt
      obtain ⟨u, cx, iu⟩ := HC.out.at hQ.ext hlt
      obtain ⟨x, hx⟩ : ∃ x, x = nthL l k := ⟨_, rfl⟩
      rw [← hx] at iu
      obtain ⟨au, cu, rfl, _⟩ := iu.form
      have HX := Lib.hid hx
      have HH := Lib.hid ((refTrue_quiet iu (HB.out.ext hQ.ext)).mono fun _ _ h => h.take)
      clear hx
      obtain ⟨tb, htb⟩ : ∃ tb, tb = trueP x lits := ⟨_, rfl⟩
      rw [← htb] at HH
      have HTB := Lib.hid htb
      clear htb
      go_wp2_with fail
      refine HH.out.mono ?_
      rintro _ w2 ⟨_, rfl, hq2, rfl⟩
      have hQ2 := hQ.trans hq2
      clear hq2 HH
      cases tb with
      | false =>
        have HR := HIT.out k hlt hF.out (by rw [← HX.out, ← HTB.out])
        go_wp2
        go_ret
        exact .fin (int_eq HR.out.symm) hQ2
      | true =>
        have HN : Hid (∀ j, j < k + 1 → trueP (nthL l j) lits = true) := Lib.hid (fun j hj => by
          rcases Nat.lt_or_ge j k with h | h
          · exact hF.out j h
          · obtain rfl : j = k := by omega
            rw [← HX.out, ← HTB.out])
        go_wp2
        go_roundw
        case rel => exact ⟨k + 1, by omega, by go_num, hQ2, HN⟩
        case measure => simp [intOf]; omega
    · have HR := END.out fun j hj => hF.out j (by omega)
      go_wp2
      go_ret
      exact .fin (int_eq HR.out.symm) hQ

set_option maxRecDepth 100000 in
theorem refSubsumes_quiet {S S' : Nat → Prop} {w : World} {va vb : Value} {la lb : List Int} (ha : Ints S w va la) (hb : Ints S' w vb lb) :
    Calls Try.prog 31 #[va, vb] w (QuietP w (.bool (subP la lb))) := by
  obtain ⟨R, hR⟩ : ∃ R : Bool, R = subP la lb := ⟨_, rfl⟩
  rw [← hR]
  have HIT : ∀ k, k < la.length → (∀ j, j < k → memB lb (nth la j) = true) → memB lb (nth la k) = false → Hid (R = false) := fun k hk hb ht => Lib.hid (by rw [hR]; exact subP_hit hk ht)
  have END : (∀ j, j < la.length → memB lb (nth la j) = true) → Hid (R = true) := fun hb => Lib.hid (by rw [hR]; exact subP_none hb)
  have HIT := Lib.hid HIT
  have END := Lib.hid END
  clear hR
  obtain ⟨a, cap, rfl, ad, l1, lm, hc, hwf⟩ := ha
  unfold maxLen at lm
  obtain ⟨i0, hi, hz1, hz2, hz3⟩ := info_parts info_int
  have HQ := Lib.hid (idx_one Try.underlying25 hi hz2 ad)
  have HC := Lib.hid hc
  clear hc hi hz1 hz2 hz3
  obtain ⟨b, bcap, rfl, _⟩ := hb.form
  have HB := Lib.hid hb
  clear hb
  go_enter Try.func31, Try.ntmps31
  go_wp2
  go_loopw [5] (fun i wr => ∃ k : Nat, k ≤ la.length ∧ i = .int .i64 k ∧ QW w wr ∧ Hid (∀ j, j < k → memB lb (nth la j) = true)) (fun i _ => la.length - (intOf i).toNat)
  case atStart => exact ⟨0, Nat.zero_le _, rfl, .refl _, Lib.hid (fun j hj => by omega)⟩
  case round =>
    obtain ⟨k, hk, rfl, hQ, hF⟩ := hrel
    by_cases hlt : k < la.length
    · have q := HQ.out k hlt
      have cx := cells_at ad hQ.ext HC.out k hlt
      obtain ⟨x, hx⟩ : ∃ x, x = nth la k := ⟨_, rfl⟩
      rw [← hx] at cx
      have HX := Lib.hid hx
      have HH := Lib.hid ((refHas_quiet (HB.out.ext hQ.ext) x).mono fun _ _ h => h.take)
      clear hx
      obtain ⟨tb, htb⟩ : ∃ tb, tb = memB lb x := ⟨_, rfl⟩
      rw [← htb] at HH
      have HTB := Lib.hid htb
      clear htb
      go_wp2_with fail
      refine HH.out.mono ?_
      rintro _ w2 ⟨_, rfl, hq2, rfl⟩
      have hQ2 := hQ.trans hq2
      clear hq2 HH
      cases tb with
      | false =>
        have HR := HIT.out k hlt hF.out (by rw [← HX.out, ← HTB.out])
        go_wp2
        go_ret
        exact .fin (bool_eq HR.out.symm) hQ2
      | true =>
        have HN : Hid (∀ j, j < k + 1 → memB lb (nth la j) = true) := Lib.hid (fun j hj => by
          rcases Nat.lt_or_ge j k with h | h
          · exact hF.out j h
          · obtain rfl : j = k := by omega
            rw [← HX.out, ← HTB.out])
        go_wp2
        go_roundw
        case rel => exact ⟨k + 1, by omega, by go_num, hQ2, HN⟩
        case measure => simp [intOf]; omega
    · have HR := END.out fun j hj => hF.out j (by omega)
      go_wp2
      go_ret
      exact .fin (bool_eq HR.out.symm) hQ

set_option maxRecDepth 100000 in
theorem refAmong_quiet {S S' : Nat → Prop} {w : World} {va vb : Value} {l : List (List Int)} {c : List Int} (ha : Lists S w va l) (hb : Ints S' w vb c) :
    Calls Try.prog 71 #[va, vb] w (QuietP w (.bool (amongP l c))) := by
  obtain ⟨R, hR⟩ : ∃ R : Bool, R = amongP l c := ⟨_, rfl⟩
  rw [← hR]
  have HIT : ∀ k, k < l.length → (∀ j, j < k → decide (nthL l j = c) = false) → decide (nthL l k = c) = true → Hid (R = true) := fun k hk hb ht => Lib.hid (by rw [hR]; exact amongP_hit hk ht)
  have END : (∀ j, j < l.length → decide (nthL l j = c) = false) → Hid (R = false) := fun hb => Lib.hid (by rw [hR]; exact amongP_none hb)
  have HIT := Lib.hid HIT
  have END := Lib.hid END
  clear hR
  obtain ⟨a, cap, rfl, ad, l1, lm⟩ := ha.form
  unfold maxLen at lm
  obtain ⟨i0, hi, hz1, hz2, hz3⟩ := info_parts info_ints
  have HQ := Lib.hid (idx_one Try.underlying22 hi hz2 ad)
  have HC := Lib.hid ha
  clear hi hz1 hz2 hz3
  obtain ⟨b, bcap, rfl, _⟩ := hb.form
  have HB := Lib.hid hb
  clear hb
  go_enter Try.func71, Try.ntmps71
  go_wp2
  go_loopw [5] (fun i wr => ∃ k : Nat, k ≤ l.length ∧ i = .int .i64 k ∧ QW w wr ∧ Hid (∀ j, j < k → decide (nthL l j = c) = false)) (fun i _ => l.length - (intOf i).toNat)
  case atStart => exact ⟨0, Nat.zero_le _, rfl, .refl _, Lib.hid (fun j hj => by omega)⟩
  case round =>
    obtain ⟨k, hk, rfl, hQ, hF⟩ := hrel
    by_cases hlt : k < l.length
    · have q := HQ.out k hlt
      obtain ⟨u, cx, iu⟩ := HC.out.at hQ.ext hlt
      obtain ⟨x, hx⟩ : ∃ x, x = nthL l k := ⟨_, rfl⟩
      rw [← hx] at iu
      obtain ⟨au, cu, rfl, _⟩ := iu.form
      have HX := Lib.hid hx
      have HH := Lib.hid ((sameClause_quiet iu (HB.out.ext hQ.ext)).mono fun _ _ h => h.take)
      clear hx
      obtain ⟨tb, htb⟩ : ∃ tb, tb = decide (x = c) := ⟨_, rfl⟩
      rw [← htb] at HH
      have HTB := Lib.hid htb
      clear htb
      go_wp2_with fail
      refine HH.out.mono ?_
      rintro _ w2 ⟨_, rfl, hq2, rfl⟩
      have hQ2 := hQ.trans hq2
      clear hq2 HH
      cases tb with
      | true =>
        have HR := HIT.out k hlt hF.out (by rw [← HX.out, ← HTB.out])
        go_wp2
        go_ret
        exact .fin (bool_eq HR.out.symm) hQ2
      | false =>
        have HN : Hid (∀ j, j < k + 1 → decide (nthL l j = c) = false) := Lib.hid (fun j hj => by
          rcases Nat.lt_or_ge j k with h | h
          · exact hF.out j h
          · obtain rfl : j = k := by omega
            rw [← HX.out, ← HTB.out])
        go_wp2
        go_roundw
        case rel => exact ⟨k + 1, by omega, by go_num, hQ2, HN⟩
        case measure => simp [intOf]; omega
    · have HR := END.out fun j hj => hF.out j (by omega)
      go_wp2
      go_ret
      exact .fin (bool_eq HR.out.symm) hQ
end Go.Proofs.Ytifcgcdbebgahaa
