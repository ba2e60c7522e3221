/- The contracts of the reference's Finer, and of Same. -/
import Derived.Test.YtnmbiibchajehaaFiner
namespace Go.Proofs.Ytnmbiibchajehaa
set_option linter.unusedVariables false
open Go.RowKit

set_option maxRecDepth 100000 in
theorem refUnder_calls {S S' : Nat → Prop} {w : World} {va vb : Value} {a b : List Int} (ha : Ints S w va a) (hb : Ints S' w vb b) (hlen : a.length = b.length) :
    Calls Try.prog 51 #[va, vb] w (Post w fun _ r => r = .bool (underS a b)) := by
  obtain ⟨aa, capa, rfl, haa, _, hma, hca, hfa⟩ := ha
  obtain ⟨ab, capb, rfl, hab, _, hmb, hcb, hfb⟩ := hb
  unfold maxLen at hma
  clear hmb
  have HL := Lib.hid hlen
  clear hlen
  obtain ⟨i0, hi, hz0, hz1, hz2⟩ := info_parts info3
  have hixa := idx_one Try.underlying22 hi hz1 haa
  have hixb := idx_one Try.underlying22 hi hz1 hab
  go_enter Try.func51, Try.ntmps51
  go_wp2
  go_loopw [5] (fun i wr => ∃ k : Nat, k ≤ a.length ∧ i = .int .i64 k ∧ Below w.heap.size w wr ∧ ∀ p q, p < k → q < p → nth a p = nth a q → nth b p = nth b q) (fun i _ => a.length - (intOf i).toNat)
  case atStart => exact ⟨0, by omega, rfl, .refl _ _, fun p q h => by omega⟩
  case round =>
    obtain ⟨k, hk, rfl, hbr, hrel⟩ := hrel
    have HR := Lib.hid hrel
    clear hrel
    by_cases hlt : k < a.length
    · have hltb : k < b.length := by have := HL.out; omega
      have qa := hixa k hlt
      have qb := hixb k hltb
      obtain ⟨wo, rfl⟩ : ∃ wo : World, wo = wr := ⟨_, rfl⟩
      go_wp2
      go_loopw [6] (fun jv wi => ∃ j : Nat, j ≤ k ∧ jv = .int .i64 j ∧ Below wo.heap.size wo wi ∧ ∀ q, q < j → nth a k = nth a q → nth b k = nth b q) (fun j _ => k - (intOf j).toNat)
      case atStart => exact ⟨0, by omega, rfl, .refl _ _, fun q h => by omega⟩
      case round =>
        obtain ⟨j, hj, rfl, hbi, hrel⟩ := hrel
        have HJ := Lib.hid hrel
        clear hrel
        by_cases hjk : j < k
        · have pak := cells_at haa (ext_trans hbr hbi) hca k hlt
          have paj := cells_at haa (ext_trans hbr hbi) hca j (by omega)
          have qaj := hixa j (by omega)
          have pbk := cells_at hab (ext_trans hbr hbi) hcb k hltb
          have pbj := cells_at hab (ext_trans hbr hbi) hcb j (by omega)
          have qbj := hixb j (by omega)
          by_cases he : nth a k = nth a j
          · have he' : (nth a k == nth a j) = true := by simp [he]
            have HE := Lib.hid he
            clear he
            by_cases hf : nth b k = nth b j
            · have hf' : (nth b k != nth b j) = false := by simp [hf]
              have HF := Lib.hid hf
              clear hf
              go_wp2
              go_quiet (fail)
              go_wp2
              go_roundw
              case rel =>
                refine ⟨j + 1, by omega, by go_num, ext_drewN hbi _, fun q hq e => ?_⟩
                by_cases hqj : q = j
                · subst hqj; exact HF.out
                · exact HJ.out q (by omega) e
              case measure => simp [intOf]; omega
            · have hf' : (nth b k != nth b j) = true := by simp [hf]
              go_wp2
              go_quiet (fail)
              go_wp2
              go_ret
              exact .mk (ext_drewN (ext_trans hbr hbi) _) (bool_eq (underS_false hlt (show j < a.length by omega) HE.out hf).symm)
          · have he' : (nth a k == nth a j) = false := by simp [he]
            go_wp2
            go_quiet (fail)
            go_wp2
            go_roundw
            case rel =>
              refine ⟨j + 1, by omega, by go_num, ext_drewN hbi _, fun q hq e => ?_⟩
              by_cases hqj : q = j
              · subst hqj; exact absurd e he
              · exact HJ.out q (by omega) e
            case measure => simp [intOf]; omega
        · have hjk' : j = k := by omega
          subst hjk'
          go_wp2
          go_roundw
          case rel =>
            refine ⟨j + 1, by omega, by go_num, ext_trans hbr hbi, fun p q hp hq e => ?_⟩
            by_cases hpj : p = j
            · subst hpj; exact HJ.out q hq e
            · exact HR.out p q (by omega) hq e
          case measure => simp [intOf]; omega
    · have hk' : k = a.length := by omega
      subst hk'
      have hU : Under a b := by
        intro i j hi hj e
        by_cases h1 : j < i
        · exact HR.out i j hi h1 e
        · by_cases h2 : i = j
          · rw [h2]
          · exact (HR.out j i hj (by omega) e.symm).symm
      have HU := Lib.hid hU
      clear hU
      go_wp2
      go_ret
      exact .mk hbr (bool_eq (underS_true HU.out).symm)

set_option maxRecDepth 100000 in
theorem refFiner_calls {S S' : Nat → Prop} {w : World} {va vb : Value} {a b : List Int} (ha : Ints S w va a) (hb : Ints S' w vb b) :
    Calls Try.prog 33 #[va, vb] w (Post w fun _ r => r = .tuple #[.bool (finerR a b).1, .int .i64 (finerR a b).2]) := by
  go_enter Try.func33, Try.ntmps33
  go_wp2_with fail
  refine (refBoth_calls ha hb).mono ?_
  rintro _ w1 ⟨_, rfl, hb1, rfl⟩
  by_cases h1 : bothS a b = 0
  · have e1 : (bothS a b != 0) = false := by simp [h1]
    have H1 := Lib.hid h1
    clear h1
    go_wp2_with fail
    refine (refUnder_calls (ha.ext hb1) (hb.ext hb1) (bothS_len H1.out).1).mono ?_
    rintro _ w2 ⟨_, rfl, hb2, rfl⟩
    go_wp2
    go_ret2
    exact .mk (ext_trans hb1 hb2) (tuple_eq (by simp [finerR, H1.out]) (by simp [finerR, H1.out]))
  · have e1 : (bothS a b != 0) = true := by simp [h1]
    go_wp2_with fail
    go_ret2
    exact .mk hb1 (tuple_eq (by simp [finerR, h1]) (by simp [finerR, h1]))

def sameR (l : List Int) (i j : Int) : Bool × Int :=
  if checkS l = 0 then (if 0 ≤ i ∧ i < l.length ∧ 0 ≤ j ∧ j < l.length then (nth l i.toNat == nth l j.toNat, 0) else (false, 2)) else (false, checkS l)

set_option maxRecDepth 100000 in
theorem same_calls {S : Nat → Prop} {w : World} {v : Value} {l : List Int} (h : Ints S w v l) (i j : Int) :
    Calls Try.prog 27 #[v, .int .i64 i, .int .i64 j] w (Post w fun _ r => r = .tuple #[.bool (sameR l i j).1, .int .i64 (sameR l i j).2]) := by
  have h0 := h
  obtain ⟨a, cap, rfl, ha, _, hm, hc, hf⟩ := h0
  unfold maxLen at hm
  obtain ⟨i0, hi, hz0, hz1, hz2⟩ := info_parts info3
  have hix := idx_one Try.underlying22 hi hz1 ha
  go_enter Try.func27, Try.ntmps27
  go_wp2_with fail
  refine (check_calls h).mono ?_
  rintro _ w1 ⟨_, rfl, hb1, rfl⟩
  by_cases h1 : checkS l = 0
  · have e1 : (checkS l != 0) = false := by simp [h1]
    have H1 := Lib.hid h1
    clear h1
    by_cases hi0 : i < 0
    · go_wp2
      go_ret2
      exact .mk hb1 (tuple_eq (by simp [sameR, H1.out, show ¬ 0 ≤ i by omega]) (by simp [sameR, H1.out, show ¬ 0 ≤ i by omega]))
    · by_cases hil : (l.length : Int) ≤ i
      · go_wp2
        go_ret2
        exact .mk hb1 (tuple_eq (by simp [sameR, H1.out, show ¬ i < l.length by omega]) (by simp [sameR, H1.out, show ¬ i < l.length by omega]))
      · by_cases hj0 : j < 0
        · go_wp2
          go_ret2
          exact .mk hb1 (tuple_eq (by simp [sameR, H1.out, show ¬ 0 ≤ j by omega]) (by simp [sameR, H1.out, show ¬ 0 ≤ j by omega]))
        · by_cases hjl : (l.length : Int) ≤ j
          · go_wp2
            go_ret2
            exact .mk hb1 (tuple_eq (by simp [sameR, H1.out, show ¬ j < l.length by omega]) (by simp [sameR, H1.out, show ¬ j < l.length by omega]))
          · obtain ⟨p, rfl⟩ := Int.eq_ofNat_of_zero_le (show 0 ≤ i by omega)
            obtain ⟨q, rfl⟩ := Int.eq_ofNat_of_zero_le (show 0 ≤ j by omega)
            have q1 := hix p (by omega)
            have q2 := hix q (by omega)
            have p1 := cells_at ha hb1 hc p (by omega)
            have p2 := cells_at ha hb1 hc q (by omega)
            go_wp2
            go_quiet (fail)
            go_wp2
            go_ret2
            exact .mk (ext_drewN hb1 _) (tuple_eq (by simp [sameR, H1.out, show p < l.length by omega, show q < l.length by omega]) (by simp [sameR, H1.out, show p < l.length by omega, show q < l.length by omega]))
  · have e1 : (checkS l != 0) = true := by simp [h1]
    go_wp2_with fail
    go_ret2
    exact .mk hb1 (tuple_eq (by simp [sameR, h1]) (by simp [sameR, h1]))

set_option maxRecDepth 100000 in
theorem refSame_calls {S : Nat → Prop} {w : World} {v : Value} {l : List Int} (h : Ints S w v l) (i j : Int) :
    Calls Try.prog 28 #[v, .int .i64 i, .int .i64 j] w (Post w fun _ r => r = .tuple #[.bool (sameR l i j).1, .int .i64 (sameR l i j).2]) := by
  have h0 := h
  obtain ⟨a, cap, rfl, ha, _, hm, hc, hf⟩ := h0
  unfold maxLen at hm
  obtain ⟨i0, hi, hz0, hz1, hz2⟩ := info_parts info3
  have hix := idx_one Try.underlying22 hi hz1 ha
  go_enter Try.func28, Try.ntmps28
  go_wp2_with fail
  refine (refCheck_calls h).mono ?_
  rintro _ w1 ⟨_, rfl, hb1, rfl⟩
  by_cases h1 : checkS l = 0
  · have e1 : (checkS l != 0) = false := by simp [h1]
    have H1 := Lib.hid h1
    clear h1
    by_cases hi0 : i < 0
    · go_wp2
      go_ret2
      exact .mk hb1 (tuple_eq (by simp [sameR, H1.out, show ¬ 0 ≤ i by omega]) (by simp [sameR, H1.out, show ¬ 0 ≤ i by omega]))
    · by_cases hil : (l.length : Int) ≤ i
      · go_wp2
        go_ret2
        exact .mk hb1 (tuple_eq (by simp [sameR, H1.out, show ¬ i < l.length by omega]) (by simp [sameR, H1.out, show ¬ i < l.length by omega]))
      · by_cases hj0 : j < 0
        · go_wp2
          go_ret2
          exact .mk hb1 (tuple_eq (by simp [sameR, H1.out, show ¬ 0 ≤ j by omega]) (by simp [sameR, H1.out, show ¬ 0 ≤ j by omega]))
        · by_cases hjl : (l.length : Int) ≤ j
          · go_wp2
            go_ret2
            exact .mk hb1 (tuple_eq (by simp [sameR, H1.out, show ¬ j < l.length by omega]) (by simp [sameR, H1.out, show ¬ j < l.length by omega]))
          · obtain ⟨p, rfl⟩ := Int.eq_ofNat_of_zero_le (show 0 ≤ i by omega)
            obtain ⟨q, rfl⟩ := Int.eq_ofNat_of_zero_le (show 0 ≤ j by omega)
            have q1 := hix p (by omega)
            have q2 := hix q (by omega)
            have p1 := cells_at ha hb1 hc p (by omega)
            have p2 := cells_at ha hb1 hc q (by omega)
            go_wp2
            go_quiet (fail)
            go_wp2
            go_ret2
            exact .mk (ext_drewN hb1 _) (tuple_eq (by simp [sameR, H1.out, show p < l.length by omega, show q < l.length by omega]) (by simp [sameR, H1.out, show p < l.length by omega, show q < l.length by omega]))
  · have e1 : (checkS l != 0) = true := by simp [h1]
    go_wp2_with fail
    go_ret2
    exact .mk hb1 (tuple_eq (by simp [sameR, h1]) (by simp [sameR, h1]))
end Go.Proofs.Ytnmbiibchajehaa
