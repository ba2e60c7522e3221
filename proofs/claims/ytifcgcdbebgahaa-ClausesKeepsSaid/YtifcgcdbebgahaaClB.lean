/- Lists of literals, in the reference: what only reads. -/
import Derived.Test.YtifcgcdbebgahaaClA
namespace Go.Proofs.Ytifcgcdbebgahaa
set_option linter.unusedVariables false
open Go.RowKit
attribute [local go_sem ↓] Go.wp_at_zero Go.wp_at_succ

set_option maxRecDepth 100000 in
theorem refHas_quiet {S : Nat → Prop} {w : World} {v : Value} {l : List Int} (h : Ints S w v l) (x : Int) :
    Calls Try.prog 59 #[v, .int .i64 x] w (QuietP w (.bool (memB l x))) := by
  obtain ⟨a, cap, rfl, ad, l1, lm, hc, hwf⟩ := h
  unfold maxLen at lm
  obtain ⟨i, hi, hz1, hz2, hz3⟩ := info_parts info_int
  have HQ := Lib.hid (idx_one Try.underlying25 hi hz2 ad)
  have HC := Lib.hid hc
  clear hc hi hz1 hz2 hz3
  go_enter Try.func59, Try.ntmps59
  go_wp2
  go_loopw [5] (fun i wr => ∃ k : Nat, k ≤ l.length ∧ i = .int .i64 k ∧ (∃ m, wr = w.drewN m) ∧ Hid (∀ j, j < k → nth l j ≠ x)) (fun i _ => l.length - (intOf i).toNat)
  case atStart => exact ⟨0, Nat.zero_le _, rfl, ⟨0, rfl⟩, Lib.hid (fun j hj => by omega)⟩
  case round =>
    obtain ⟨k, hk, rfl, ⟨m, rfl⟩, hF⟩ := hrel
    by_cases hlt : k < l.length
    · have q := HQ.out k hlt
      have c := HC.out k hlt
      obtain ⟨y, hy⟩ : ∃ y, y = nth l k := ⟨_, rfl⟩
      rw [← hy] at c
      have HY := Lib.hid hy
      clear hy
      by_cases he : y = x
      · have e1 : (y == x) = true := by simp [he]
        have HR : Hid (memB l x = true) := Lib.hid (by rw [← he, HY.out]; simp [memB, nth_mem hlt])
        clear he
        go_wp2
        go_ret
        exact .of (bool_eq HR.out.symm) _
      · have e1 : (y == x) = false := by simp [he]
        have HR : Hid (∀ j, j < k + 1 → nth l j ≠ x) := Lib.hid (fun j hj => by
          rcases Nat.lt_or_ge j k with h | h
          · exact hF.out j h
          · obtain rfl : j = k := by omega
            rw [← HY.out]; exact he)
        clear he
        go_wp2
        go_roundw
        case rel => exact ⟨k + 1, by omega, by go_num, ⟨_, rfl⟩, HR⟩
        case measure => simp [intOf]; omega
    · have HR : Hid (memB l x = false) := Lib.hid (by
        simp only [memB, decide_eq_false_iff_not]
        intro hm
        obtain ⟨j, hj, e⟩ := List.getElem_of_mem hm
        exact hF.out j (by omega) (by rw [nth_eq hj]; exact e))
      go_wp2
      go_ret
      exact .of (bool_eq HR.out.symm) _
set_option maxRecDepth 100000 in
theorem sameClause_quiet {S S' : Nat → Prop} {w : World} {v1 v2 : Value} {l1 l2 : List Int} (h1 : Ints S w v1 l1) (h2 : Ints S' w v2 l2) :
    Calls Try.prog 73 #[v1, v2] w (QuietP w (.bool (decide (l1 = l2)))) := by
  obtain ⟨a1, cap1, rfl, ha1, _, hm1, hc1, _⟩ := h1
  obtain ⟨a2, cap2, rfl, ha2, _, _, hc2, _⟩ := h2
  unfold maxLen at hm1
  obtain ⟨i0, hi, hz0, hz1, hz2⟩ := info_parts info_int
  have hix1 := Lib.hid (idx_one Try.underlying25 hi hz1 ha1)
  have hix2 := Lib.hid (idx_one Try.underlying25 hi hz1 ha2)
  clear hi hz0 hz1 hz2
  by_cases hlen : l1.length = l2.length
  · have hne : ((l1.length : Int) != l2.length) = false := by simp [hlen]
    have HL := Lib.hid hlen
    clear hlen
    go_enter Try.func73, Try.ntmps73
    go_wp2
    go_loopw [5] (fun i wr => ∃ k : Nat, k ≤ l1.length ∧ i = .int .i64 k ∧ (∃ m, wr = w.drewN m) ∧ Hid (l1.take k = l2.take k)) (fun i _ => l1.length - (intOf i).toNat)
    case atStart => exact ⟨0, by omega, rfl, ⟨0, rfl⟩, Lib.hid rfl⟩
    case round =>
      obtain ⟨k, hk, rfl, ⟨m, rfl⟩, H⟩ := hrel
      by_cases hlt : k < l1.length
      · have hlt2 : k < l2.length := by have := HL.out; omega
        have q1 := hix1.out k hlt
        have q2 := hix2.out k hlt2
        have p1 := hc1 k hlt
        have p2 := hc2 k hlt2
        clear hc1 hc2
        by_cases he : nth l1 k = nth l2 k
        · have he' : (nth l1 k != nth l2 k) = false := by simp [he]
          have HE := Lib.hid he
          clear he
          go_wp2
          go_quiet (fail)
          go_wp2
          go_roundw
          case rel => exact ⟨k + 1, by omega, by go_num, ⟨_, rfl⟩, Lib.hid (take_eq_step hlt hlt2 H.out HE.out)⟩
          case measure => simp [intOf]; omega
        · have he' : (nth l1 k != nth l2 k) = true := by simp [he]
          go_wp2
          go_quiet (fail)
          go_wp2
          go_ret
          rw [World.drewN_drewN]
          exact .of (bool_eq (decide_eq_false (fun (e : l1 = l2) => he (by rw [e]))).symm) _
      · go_wp2
        go_ret
        refine .of (bool_eq ?_) _
        have := H.out
        have h2 := HL.out
        rw [List.take_of_length_le (by omega), List.take_of_length_le (by omega)] at this
        exact (decide_eq_true this).symm
  · have hne : ((l1.length : Int) != l2.length) = true := by simp; omega
    go_enter Try.func73, Try.ntmps73
    go_wp2
    go_ret
    exact .of (bool_eq (decide_eq_false (fun (e : l1 = l2) => hlen (by rw [e]))).symm) 0
theorem take_eq_stepL {l1 l2 : List (List Int)} {k : Nat} (hk1 : k < l1.length) (hk2 : k < l2.length) (h : l1.take k = l2.take k) (e : nthL l1 k = nthL l2 k) : l1.take (k + 1) = l2.take (k + 1) := by
  rw [take_nthL hk1, take_nthL hk2, h, e]

/-- A loop that goes on reading: the elements of a list, one after the other. -/
theorem sameAll_quiet {S S' : Nat → Prop} {w : World} {va vb : Value} {al bl : List (List Int)} (la : Lists S w va al) (lb : Lists S' w vb bl) :
    Calls Try.prog 52 #[va, vb] w (QuietP w (.bool (decide (al = bl)))) := by
  obtain ⟨aa, acap, rfl, aad, al1, alm⟩ := la.form
  obtain ⟨ba, bcap, rfl, bad, bl1, blm⟩ := lb.form
  unfold maxLen at alm blm
  obtain ⟨i, hi, hz1, hz2, hz3⟩ := info_parts info_ints
  have HQ := Lib.hid (idx_one Try.underlying22 hi hz2 aad)
  have HP := Lib.hid (idx_one Try.underlying22 hi hz2 bad)
  clear hi hz1 hz2 hz3
  by_cases hlen : ¬ al.length = bl.length
  · have e2 : ((al.length : Int) != bl.length) = true := by simp; omega
    have R : Hid (decide (al = bl) = false) := Lib.hid (decide_eq_false fun h => hlen (by rw [h]))
    clear hlen
    go_enter Try.func52, Try.ntmps52
    go_wp2
    go_ret
    exact .fin (bool_eq R.out.symm) (.refl _)
  have hlen := Classical.not_not.1 hlen
  have e2 : ((al.length : Int) != bl.length) = false := by simp [hlen]
  have HL := Lib.hid hlen
  clear hlen
  obtain ⟨R, hR⟩ : ∃ R, R = decide (al = bl) := ⟨_, rfl⟩
  rw [← hR]
  have HRb := Lib.hid hR
  clear hR
  go_enter Try.func52, Try.ntmps52
  go_wp2
  go_loopw [5] (fun i wr => ∃ k : Nat, k ≤ al.length ∧ i = .int .i64 k ∧ QW w wr ∧ Hid (al.take k = bl.take k)) (fun i _ => al.length - (intOf i).toNat)
  case atStart => exact ⟨0, Nat.zero_le _, rfl, .refl _, Lib.hid rfl⟩
  case round =>
    obtain ⟨k, hk, rfl, hQ, H⟩ := hrel
    by_cases hlt : k < al.length
    · have hlt2 : k < bl.length := by have := HL.out; omega
      have qa := HQ.out k hlt
      have qb := HP.out k hlt2
      obtain ⟨u, cu, iu⟩ := la.at hQ.ext hlt
      obtain ⟨v, cv, iv⟩ := lb.at hQ.ext hlt2
      have HS := Lib.hid (fun n => sameClause_quiet (iu.drewN n) (iv.drewN n))
      by_cases he : nthL al k = nthL bl k
      · have d1 : decide (nthL al k = nthL bl k) = true := decide_eq_true he
        have HE := Lib.hid he
        clear he
        go_wp2_with fail
        go_quiet ((go_at_call 73; exact quiet_calls (HS.out _)))
        go_wp2
        go_roundw
        case rel => exact ⟨k + 1, by omega, by go_num, hQ.drewN _, Lib.hid (take_eq_stepL hlt hlt2 H.out HE.out)⟩
        case measure => simp [intOf]; omega
      · have d1 : decide (nthL al k = nthL bl k) = false := decide_eq_false he
        have HR : Hid (R = false) := Lib.hid (by rw [HRb.out]; exact decide_eq_false fun e => he (by rw [e]))
        clear he
        go_wp2_with fail
        go_quiet ((go_at_call 73; exact quiet_calls (HS.out _)))
        go_wp2
        go_ret
        exact .fin (bool_eq HR.out.symm) (hQ.drewN _)
    · have HR : Hid (R = true) := Lib.hid (by
        have := H.out
        have h2 := HL.out
        rw [List.take_of_length_le (by omega), List.take_of_length_le (by omega)] at this
        rw [HRb.out]; exact decide_eq_true this)
      go_wp2
      go_ret
      exact .fin (bool_eq HR.out.symm) hQ

def sameM (a b : Mx) : Bool := decide (a.cols = b.cols) && decide (a.rows = b.rows)
theorem sameM_iff {a b : Mx} : sameM a b = true ↔ a = b := by
  obtain ⟨ac, ar⟩ := a
  obtain ⟨bc, br⟩ := b
  simp [sameM]
set_option maxRecDepth 100000 in
theorem same_calls {S S' : Nat → Prop} {w : World} {va vb : Value} {a b : Mx} (ha : MatV S w va a) (hb : MatV S' w vb b) :
    Calls Try.prog 17 #[va, vb] w (Post w fun _ r => r = .bool (sameM a b)) := by
  obtain ⟨ac, al⟩ := a
  obtain ⟨bc, bl⟩ := b
  obtain ⟨ra, rfl, la⟩ := ha
  obtain ⟨rb, rfl, lb⟩ := hb
  obtain ⟨aa, acap, rfl, aad, al1, alm⟩ := la.form
  obtain ⟨ba, bcap, rfl, bad, bl1, blm⟩ := lb.form
  dsimp only at la lb al1 bl1 aad bad ⊢
  have ex : Below w.heap.size w ((w.alloc (.cells #[.int .i64 ac, .slice aa al.length acap] 24)).alloc (.cells #[.int .i64 bc, .slice ba bl.length bcap] 24)) := ext_alloc' (ext_alloc w _) _
  by_cases hc : ¬ ac = bc
  · have e1 : (ac == bc) = false := by simp [hc]
    have R : Hid (sameM ⟨ac, al⟩ ⟨bc, bl⟩ = false) := Lib.hid (by simp [sameM, hc])
    clear hc
    go_enter Try.func17, Try.ntmps17
    go_wp2
    go_ret
    exact .mk ex (bool_eq R.out.symm)
  have hc := Classical.not_not.1 hc
  have e1 : (ac == bc) = true := by simp [hc]
  have R : Hid (sameM ⟨ac, al⟩ ⟨bc, bl⟩ = decide (al = bl)) := Lib.hid (by simp [sameM, hc])
  have KS := Lib.hid ((sameAll_quiet (la.ext ex) (lb.ext ex)).mono fun _ _ h => h.take)
  obtain ⟨q, hq⟩ : ∃ q, q = decide (al = bl) := ⟨_, rfl⟩
  rw [← hq] at R KS
  rw [R.out]
  clear hc hq R
  go_enter Try.func17, Try.ntmps17
  go_wp2_with fail
  refine KS.out.mono ?_
  rintro _ w1 ⟨_, rfl, hq1, rfl⟩
  have hb1 := ext_trans ex hq1.ext
  clear hq1
  go_wp2
  go_ret
  exact .mk hb1 rfl

def trueP (c lits : List Int) : Bool := c.any (memB lits)
set_option maxRecDepth 100000 in
theorem refTrue_quiet {S S' : Nat → Prop} {w : World} {va vb : Value} {c lits : List Int} (ha : Ints S w va c) (hb : Ints S' w vb lits) :
    Calls Try.prog 27 #[va, vb] w (QuietP w (.bool (trueP c lits))) := by
  obtain ⟨a, cap, rfl, ad, l1, lm, hc, hwf⟩ := ha
  obtain ⟨b, bcap, rfl, _⟩ := hb.form
  unfold maxLen at lm
  obtain ⟨i, hi, hz1, hz2, hz3⟩ := info_parts info_int
  have HQ := Lib.hid (idx_one Try.underlying25 hi hz2 ad)
  have HC := Lib.hid hc
  have HB := Lib.hid hb
  obtain ⟨R, hR⟩ : ∃ R, R = trueP c lits := ⟨_, rfl⟩
  rw [← hR]
  have HR := Lib.hid hR
  clear hc hi hz1 hz2 hz3 hR hb
  go_enter Try.func27, Try.ntmps27
  go_wp2
  go_loopw [5] (fun i wr => ∃ k : Nat, k ≤ c.length ∧ i = .int .i64 k ∧ QW w wr ∧ Hid (∀ j, j < k → memB lits (nth c j) = false)) (fun i _ => c.length - (intOf i).toNat)
  case atStart => exact ⟨0, Nat.zero_le _, rfl, .refl _, Lib.hid (fun j hj => by omega)⟩
  case round =>
    obtain ⟨k, hk, rfl, hQ, hF⟩ := hrel
    by_cases hlt : k < c.length
    · have q := HQ.out k hlt
      have cx := cells_at ad hQ.ext HC.out k hlt
      obtain ⟨x, hx⟩ : ∃ x, x = nth c k := ⟨_, rfl⟩
      rw [← hx] at cx
      have HX := Lib.hid hx
      have HH := Lib.hid ((refHas_quiet (HB.out.ext hQ.ext) x).mono fun _ _ h => h.take)
      clear hx
      go_wp2_with fail
      refine HH.out.mono ?_
      rintro _ w2 ⟨_, rfl, hq2, rfl⟩
      have hQ2 := hQ.trans hq2
      clear hq2 HH
      cases hm : memB lits x with
      | true =>
        have HRT : Hid (R = true) := Lib.hid (by rw [HR.out]; unfold trueP; rw [List.any_eq_true]; exact ⟨x, HX.out ▸ nth_mem hlt, hm⟩)
        clear hm
        go_wp2
        go_ret
        exact .fin (bool_eq HRT.out.symm) hQ2
      | false =>
        have HN : Hid (∀ j, j < k + 1 → memB lits (nth c j) = false) := Lib.hid (fun j hj => by
          rcases Nat.lt_or_ge j k with h | h
          · exact hF.out j h
          · obtain rfl : j = k := by omega
            rw [← HX.out]; exact hm)
        clear hm
        go_wp2
        go_roundw
        case rel => exact ⟨k + 1, by omega, by go_num, hQ2, HN⟩
        case measure => simp [intOf]; omega
    · have HRF : Hid (R = false) := Lib.hid (by
        rw [HR.out]; unfold trueP; rw [List.any_eq_false]
        intro x hx
        obtain ⟨j, hj, rfl⟩ := List.getElem_of_mem hx
        have := hF.out j (by omega)
        rw [nth_eq hj] at this
        rw [this]; simp)
      go_wp2
      go_ret
      exact .fin (bool_eq HRF.out.symm) hQ

/-! the sizes -/
def sizesS (m : Mx) : Int := if m.cols < 0 ∨ 4096 < m.cols then 2 else if 32768 < m.rows.length then 5 else 0
set_option maxRecDepth 100000 in
theorem refSizes_calls {S : Nat → Prop} {w : World} {v : Value} {m : Mx} (h : MatV S w v m) :
    Calls Try.prog 57 #[v] w (Post w fun _ r => r = .int .i64 (sizesS m)) := by
  obtain ⟨rv, rfl, hl⟩ := h
  obtain ⟨cols, ll⟩ := m
  obtain ⟨a, cap, rfl, ad, l1, lm⟩ := hl.form
  dsimp only at hl l1 ad ⊢
  obtain ⟨E, hE⟩ : ∃ E, E = sizesS ⟨cols, ll⟩ := ⟨_, rfl⟩
  rw [← hE]
  unfold sizesS at hE
  dsimp only at hE
  by_cases c0 : cols < 0
  · have R : Hid (E = 2) := Lib.hid (by rw [hE, if_pos (.inl c0)])
    clear hE
    go_enter Try.func57, Try.ntmps57
    go_wp2
    go_ret
    exact .mk (ext_alloc w _) (int_eq R.out.symm)
  by_cases c1 : 4096 < cols
  · have R : Hid (E = 2) := Lib.hid (by rw [hE, if_pos (.inr c1)])
    clear hE
    go_enter Try.func57, Try.ntmps57
    go_wp2
    go_ret
    exact .mk (ext_alloc w _) (int_eq R.out.symm)
  rw [if_neg (by omega)] at hE
  by_cases c2 : 32768 < ll.length
  · have R : Hid (E = 5) := Lib.hid (by rw [hE, if_pos c2])
    clear hE
    go_enter Try.func57, Try.ntmps57
    go_wp2
    go_ret
    exact .mk (ext_alloc w _) (int_eq R.out.symm)
  · have R : Hid (E = 0) := Lib.hid (by rw [hE, if_neg c2])
    clear hE
    go_enter Try.func57, Try.ntmps57
    go_wp2
    go_ret
    exact .mk (ext_alloc w _) (int_eq R.out.symm)
end Go.Proofs.Ytifcgcdbebgahaa
