/- The contracts of the guards of the statements on partitions. -/
import Derived.Test.YtnmbiibchajehaaFiner2
import Derived.Test.YtnmbiibchajehaaSameLists
namespace Go.Proofs.Ytnmbiibchajehaa
set_option linter.unusedVariables false
open Go.RowKit

set_option maxRecDepth 100000 in
theorem refFew_calls {S : Nat → Prop} {w : World} {v : Value} {l : List Int} (h : Ints S w v l) :
    Calls Try.prog 40 #[v] w (Post w fun _ r => r = .bool (decide (l.length ≤ 30))) := by
  obtain ⟨a, cap, rfl, _⟩ := h
  go_enter Try.func40, Try.ntmps40
  go_wp2
  go_ret
  exact .same (bool_eq (by rw [Bool.eq_iff_iff]; simp; omega))

/-- A list that is neither short nor too long for the package. -/
def fewBad (l : List Int) : Bool := !decide (l.length ≤ 30) && decide (l.length ≤ 65536) || decide (65538 < l.length)

set_option maxRecDepth 100000 in
theorem few1_calls {S : Nat → Prop} {w : World} {v : Value} {l : List Int} (h : Ints S w v l) :
    Calls Try.prog 45 #[v] w (Post w fun _ r => r = .bool (fewBad l)) := by
  have h0 := h
  obtain ⟨a, cap, rfl, _⟩ := h0
  go_enter Try.func45, Try.ntmps45
  go_wp2_with fail
  refine (refFew_calls h).mono ?_
  rintro _ w1 ⟨_, rfl, hb1, rfl⟩
  by_cases h1 : l.length ≤ 30
  · have e1 : decide (l.length ≤ 30) = true := by simp [h1]
    rw [e1]
    go_wp2
    go_ret
    exact .mk hb1 (bool_eq (by simp [fewBad, h1]; omega))
  · have e1 : decide (l.length ≤ 30) = false := by simp [h1]
    rw [e1]
    by_cases h2 : l.length ≤ 65536
    · go_wp2
      go_ret
      exact .mk hb1 (bool_eq (by simp [fewBad, h1, h2]))
    · go_wp2
      go_ret
      exact .mk hb1 (bool_eq (by rw [Bool.eq_iff_iff]; simp [fewBad, h1, h2]; omega))

/-- A list that is long, no partition, or not of the length n. -/
def goodBad (n : Nat) (l : List Int) : Bool := !decide (l.length ≤ 30) || (checkS l != 0) || decide (l.length ≠ n)

set_option maxRecDepth 100000 in
theorem good1_calls {S S' : Nat → Prop} {w : World} {v u : Value} {l : List Int} {ll : List (List Int)} {B : Nat} (h : Ints S w v l) (hc : w.cell? ⟨B, 0, none⟩ = some u) (hl : Lists S' w u ll) (hne : 0 < ll.length) :
    Calls Try.prog 39 #[v, .pointer (some ⟨B, 0, none⟩)] w (Post w fun _ r => r = .bool (goodBad (nthL ll 0).length l)) := by
  have h0 := h
  obtain ⟨a, cap, rfl, _⟩ := h0
  have hl0 := hl
  obtain ⟨al, cl, rfl, hal, _, _, hcl⟩ := hl0
  obtain ⟨i0, hi, hz0, hz1, hz2⟩ := info_parts info_slice
  have hix := idx_one Try.underlying32 hi hz1 hal
  have q0 : ∀ W, (Instr.indexAt 32 (.slice al ll.length cl) (.int .i64 0)).run Try.prog W = .ok (.pointer (some (adr al 0))) W := hix 0 hne
  obtain ⟨u0, c0, i0⟩ := hcl 0 hne
  have i1 := i0
  obtain ⟨a0, cap0, rfl, _⟩ := i1
  clear hix hcl
  have hbb : B < w.heap.size := World.block_lt_of_cell? w _ hc
  go_enter Try.func39, Try.ntmps39
  go_wp2_with fail
  refine (refFew_calls h).mono ?_
  rintro _ w1 ⟨_, rfl, hb1, rfl⟩
  by_cases h1 : l.length ≤ 30
  · have e1 : decide (l.length ≤ 30) = true := by simp [h1]
    rw [e1]
    go_wp2_with fail
    refine (refCheck_calls (h.ext hb1)).mono ?_
    rintro _ w2 ⟨_, rfl, hb2, rfl⟩
    have hb := ext_trans hb1 hb2
    have hc2 : w2.cell? ⟨B, 0, none⟩ = some (.slice al ll.length cl) := (hb.cell (p := ⟨B, 0, none⟩) hbb).trans hc
    have hd2 : w2.cell? (adr al 0) = some (.slice a0 (nthL ll 0).length cap0) := (hal.cell (.of_ext hb) hne).trans c0
    by_cases h2 : checkS l = 0
    · have e2 : (checkS l != 0) = false := by simp [h2]
      by_cases h3 : l.length = (nthL ll 0).length
      · have e3 : ((l.length : Int) != (nthL ll 0).length) = false := by simp [h3]
        have H2 := Lib.hid h2
        have H3 := Lib.hid h3
        clear h2 h3
        go_wp2
        go_ret
        exact .mk hb (bool_eq (by have := H3.out; simp [goodBad, H2.out, H3.out]; omega))
      · have e3 : ((l.length : Int) != (nthL ll 0).length) = true := by simp; omega
        have H2 := Lib.hid h2
        clear h2
        go_wp2
        go_ret
        exact .mk hb (bool_eq (by simp [goodBad, h1, H2.out, h3]))
    · have e2 : (checkS l != 0) = true := by simp [h2]
      go_wp2
      go_ret
      exact .mk hb (bool_eq (by simp [goodBad, h1, h2]))
  · have e1 : decide (l.length ≤ 30) = false := by simp [h1]
    rw [e1]
    go_wp2
    go_ret
    exact .mk hb1 (bool_eq (by simp [goodBad, h1]))

set_option maxRecDepth 100000 in
theorem indexFew_calls {S : Nat → Prop} {w : World} {v : Value} {ll : List (List Int)} (h : Lists S w v ll)  :
    Calls Try.prog 55 #[v, .func (.func 45) #[] #[]] w (Post w fun _ r => ∃ n : Int, r = .int .i64 n ∧ decide (0 ≤ n) = ll.any (fewBad)) := by
  have hL := h
  obtain ⟨a, capl, rfl, ha, _, hm, hc⟩ := h
  unfold maxLen at hm
  obtain ⟨i0, hi, hz0, hz1, hz2⟩ := info_parts info_slice
  have hix := idx_one Try.underlying32 hi hz1 ha
  clear hi hz0 hz1 hz2
  go_enter Try.func55, Try.ntmps55
  go_wp2
  go_loopw [8] (fun i wr => ∃ k : Nat, k ≤ ll.length ∧ i = .int .i64 k ∧ Below w.heap.size w wr ∧ (ll.take k).any (fewBad) = false) (fun i _ => ll.length - (intOf i).toNat)
  case atStart => exact ⟨0, by omega, rfl, .refl _ _, rfl⟩
  case round =>
    obtain ⟨k, hk, rfl, hb, hrel⟩ := hrel
    have H := Lib.hid hrel
    clear hrel
    by_cases hlt : k < ll.length
    · have q := hix k hlt
      obtain ⟨u, hu, hiu⟩ := hc k hlt
      have hu' := (ha.cell (.of_ext hb) hlt).trans hu
      have hiu' := hiu.ext hb
      have HT := Lib.hid (take_nthL hlt)
      clear hu hix
      go_wp2_with fail
      refine (few1_calls hiu').mono ?_
      rintro _ w2 ⟨_, rfl, hb2, rfl⟩
      by_cases hp : (fewBad) (nthL ll k) = true
      · rw [hp]
        go_wp2
        go_ret
        exact .mk (ext_trans hb hb2) ⟨_, rfl, by
          rw [show ll.any (fewBad) = true from List.any_eq_true.2 ⟨_, nthL_mem hlt, hp⟩]
          simp⟩
      · rw [Bool.not_eq_true] at hp
        rw [hp]
        go_wp2
        go_roundw
        case rel => exact ⟨k + 1, by omega, by go_num, ext_trans hb hb2, by rw [HT.out, List.any_append, H.out]; simpa using hp⟩
        case measure => simp [intOf]; omega
    · have hk' : k = ll.length := by omega
      subst hk'
      go_wp2
      go_ret
      refine .mk hb ⟨_, rfl, ?_⟩
      have := H.out
      rw [List.take_length] at this
      rw [this]
      decide

set_option maxRecDepth 100000 in
theorem containsFew_calls {S : Nat → Prop} {w : World} {v : Value} {ll : List (List Int)} (h : Lists S w v ll)  :
    Calls Try.prog 38 #[v, .func (.func 45) #[] #[]] w (Post w fun _ r => r = .bool (ll.any (fewBad))) := by
  go_enter Try.func38, Try.ntmps38
  go_wp2_with fail
  refine (indexFew_calls h ).mono ?_
  rintro _ w1 ⟨_, rfl, hb1, n, rfl, hn⟩
  have HN := Lib.hid hn
  clear hn
  go_wp2
  go_ret
  exact .mk hb1 (bool_eq HN.out)

set_option maxRecDepth 100000 in
theorem indexGood_calls {S : Nat → Prop} {w : World} {v : Value} {ll : List (List Int)} (h : Lists S w v ll) {S' : Nat → Prop} {B : Nat} {u0 : Value} {l0 : List (List Int)} (hc0 : w.cell? ⟨B, 0, none⟩ = some u0) (hl0 : Lists S' w u0 l0) (hne : 0 < l0.length) :
    Calls Try.prog 55 #[v, .func (.func 39) #[] #[.pointer (some ⟨B, 0, none⟩)]] w (Post w fun _ r => ∃ n : Int, r = .int .i64 n ∧ decide (0 ≤ n) = ll.any (goodBad (nthL l0 0).length)) := by
  have hL := h
  obtain ⟨a, capl, rfl, ha, _, hm, hc⟩ := h
  unfold maxLen at hm
  obtain ⟨i0, hi, hz0, hz1, hz2⟩ := info_parts info_slice
  have hix := idx_one Try.underlying32 hi hz1 ha
  clear hi hz0 hz1 hz2
  go_enter Try.func55, Try.ntmps55
  go_wp2
  go_loopw [8] (fun i wr => ∃ k : Nat, k ≤ ll.length ∧ i = .int .i64 k ∧ Below w.heap.size w wr ∧ (ll.take k).any (goodBad (nthL l0 0).length) = false) (fun i _ => ll.length - (intOf i).toNat)
  case atStart => exact ⟨0, by omega, rfl, .refl _ _, rfl⟩
  case round =>
    obtain ⟨k, hk, rfl, hb, hrel⟩ := hrel
    have H := Lib.hid hrel
    clear hrel
    by_cases hlt : k < ll.length
    · have q := hix k hlt
      obtain ⟨u, hu, hiu⟩ := hc k hlt
      have hu' := (ha.cell (.of_ext hb) hlt).trans hu
      have hiu' := hiu.ext hb
      have HT := Lib.hid (take_nthL hlt)
      clear hu hix
      go_wp2_with fail
      refine (good1_calls hiu' ((hb.cell (p := ⟨B, 0, none⟩) (World.block_lt_of_cell? w _ hc0)).trans hc0) (hl0.ext hb) hne).mono ?_
      rintro _ w2 ⟨_, rfl, hb2, rfl⟩
      by_cases hp : (goodBad (nthL l0 0).length) (nthL ll k) = true
      · rw [hp]
        go_wp2
        go_ret
        exact .mk (ext_trans hb hb2) ⟨_, rfl, by
          rw [show ll.any (goodBad (nthL l0 0).length) = true from List.any_eq_true.2 ⟨_, nthL_mem hlt, hp⟩]
          simp⟩
      · rw [Bool.not_eq_true] at hp
        rw [hp]
        go_wp2
        go_roundw
        case rel => exact ⟨k + 1, by omega, by go_num, ext_trans hb hb2, by rw [HT.out, List.any_append, H.out]; simpa using hp⟩
        case measure => simp [intOf]; omega
    · have hk' : k = ll.length := by omega
      subst hk'
      go_wp2
      go_ret
      refine .mk hb ⟨_, rfl, ?_⟩
      have := H.out
      rw [List.take_length] at this
      rw [this]
      decide

set_option maxRecDepth 100000 in
theorem containsGood_calls {S : Nat → Prop} {w : World} {v : Value} {ll : List (List Int)} (h : Lists S w v ll) {S' : Nat → Prop} {B : Nat} {u0 : Value} {l0 : List (List Int)} (hc0 : w.cell? ⟨B, 0, none⟩ = some u0) (hl0 : Lists S' w u0 l0) (hne : 0 < l0.length) :
    Calls Try.prog 38 #[v, .func (.func 39) #[] #[.pointer (some ⟨B, 0, none⟩)]] w (Post w fun _ r => r = .bool (ll.any (goodBad (nthL l0 0).length))) := by
  go_enter Try.func38, Try.ntmps38
  go_wp2_with fail
  refine (indexGood_calls h hc0 hl0 hne).mono ?_
  rintro _ w1 ⟨_, rfl, hb1, n, rfl, hn⟩
  have HN := Lib.hid hn
  clear hn
  go_wp2
  go_ret
  exact .mk hb1 (bool_eq HN.out)

set_option maxRecDepth 100000 in
theorem few_calls {S : Nat → Prop} {w : World} {v : Value} {ll : List (List Int)} (h : Lists S w v ll) :
    Calls Try.prog 17 #[v] w (Post w fun _ r => r = .bool (!ll.any fewBad)) := by
  go_enter Try.func17, Try.ntmps17
  go_wp2_with fail
  refine (containsFew_calls h).mono ?_
  rintro _ w1 ⟨_, rfl, hb1, rfl⟩
  go_wp2
  go_ret
  exact .mk hb1 rfl

set_option maxRecDepth 100000 in
theorem good_calls {S : Nat → Prop} {w : World} {v : Value} {ll : List (List Int)} (h : Lists S w v ll) (hne : 0 < ll.length) :
    Calls Try.prog 11 #[v] w (Post w fun _ r => r = .bool (!ll.any (goodBad (nthL ll 0).length))) := by
  have h0 := h
  obtain ⟨a, cap, rfl, _⟩ := h0
  go_enter Try.func11, Try.ntmps11
  go_wp2_with fail
  have hb0 : Below w.heap.size w (w.alloc (.cells #[.slice a ll.length cap] 32)) := (Below.refl _ _).alloc (Nat.le_refl _) _
  refine (containsGood_calls (h.ext hb0) (B := w.heap.size) (u0 := .slice a ll.length cap) (l0 := ll) (by rw [World.cell?_alloc_new]; rfl) (h.ext hb0) hne).mono ?_
  rintro _ w1 ⟨_, rfl, hb1, rfl⟩
  go_wp2
  go_ret
  exact .mk (ext_trans hb0 hb1) rfl
end Go.Proofs.Ytnmbiibchajehaa
