/- Whether a vector has a position; whether two vectors have an odd number in common. -/
import Derived.Test.YtijmjliijjkcbaaMxPlus
import Derived.Test.YtijmjliijjkcbaaMxA
import Derived.Test.YtijmjliijjkcbaaMxShelf
namespace Go.Proofs.Ytijmjliijjkcbaa
set_option linter.unusedVariables false
open Go.RowKit
attribute [local go_sem ↓] Go.wp_at_zero Go.wp_at_succ

theorem Ord.le {l : List Int} (h : Ord l) : l.Pairwise (· ≤ ·) := h.imp fun h => by omega
theorem contains_memB (l : List Int) (x : Int) : l.contains x = memB l x := by
  unfold memB
  rw [Bool.eq_iff_iff]
  simp
theorem bsearch_quiet {S : Nat → Prop} {w : World} {v : Value} {l : List Int} (h : Ints S w v l) (ho : Ord l) (hn : l.length ≤ 1000000) (x : Int) :
    Calls Try.prog 69 #[v, .int .i64 x] w (QuietP w (.tuple #[.int .i64 (l.countP (· < x) : Nat), .bool (memB l x)])) := by
  obtain ⟨a, cap, rfl, ad, l1, lm, hc, hwf⟩ := h
  rcases ad with ⟨h0, _⟩ | ⟨b, off, rfl, hb, _⟩
  · have : l = [] := List.length_eq_zero_iff.1 h0
    subst this
    refine (Try.slices_BinarySearch_int_empty a cap x w).mono ?_
    rintro _ _ ⟨rfl, rfl⟩
    exact .same
  · refine (Try.slices_BinarySearch_int b off l.length cap l x w (Nat.le_refl _) (by omega) (fun j hj => hc j hj) (by rw [List.take_length]; exact ho.le)).mono ?_
    rintro _ _ ⟨rfl, q, rfl⟩
    rw [List.take_length, contains_memB]
    exact .of rfl q

theorem has_quiet {S : Nat → Prop} {w : World} {v : Value} {l : List Int} (h : Ints S w v l) (ho : Ord l) (hn : l.length ≤ 1000000) (x : Int) :
    Calls Try.prog 50 #[v, .int .i64 x] w (QuietP w (.bool (memB l x))) := by
  have HB := Lib.hid (bsearch_quiet h ho hn x)
  go_enter Try.func50, Try.ntmps50
  go_wp2_with fail
  refine HB.out.mono ?_
  rintro _ _ ⟨rfl, q, rfl⟩
  go_wp2
  go_ret
  exact .of rfl q

set_option maxRecDepth 100000 in
theorem refHas_quiet {S : Nat → Prop} {w : World} {v : Value} {l : List Int} (h : Ints S w v l) (x : Int) :
    Calls Try.prog 68 #[v, .int .i64 x] w (QuietP w (.bool (memB l x))) := by
  obtain ⟨a, cap, rfl, ad, l1, lm, hc, hwf⟩ := h
  unfold maxLen at lm
  obtain ⟨i, hi, hz1, hz2, hz3⟩ := info_parts info_int
  have HQ := Lib.hid (idx_one Try.underlying38 hi hz2 ad)
  have HC := Lib.hid hc
  clear hc hi hz1 hz2 hz3
  go_enter Try.func68, Try.ntmps68
  go_wp2
  go_loopw [5] (fun i wr => ∃ k : Nat, k ≤ l.length ∧ i = .int .i64 k ∧ (∃ m, wr = w.drewN m) ∧ Hid (∀ j, j < k → nth l j ≠ x)) (fun i _ => l.length - (intOf i).toNat)
  case atStart => exact ⟨0, Nat.zero_le _, rfl, ⟨0, rfl⟩, Lib.hid (fun j hj => by omega)⟩
  case round =>
    obtain ⟨k, hk, rfl, ⟨m, rfl⟩, hF⟩ := hrel
    by_cases hlt : k < l.length
    · have q := HQ.out k hlt
      have c := HC.out k hlt
      obtain ⟨y, hy⟩ : ∃ y, y = nth l k := ⟨_, rfl⟩
      rw [← hy] at c
      have HY := Lib.hid hy
      clear hy
      by_cases he : y = x
      · have e1 : (y == x) = true := by simp [he]
        have HR : Hid (memB l x = true) := Lib.hid (by rw [← he, HY.out]; simp [memB, nth_mem hlt])
        clear he
        go_wp2
        go_ret
        exact .of (bool_eq HR.out.symm) _
      · have e1 : (y == x) = false := by simp [he]
        have HR : Hid (∀ j, j < k + 1 → nth l j ≠ x) := Lib.hid (fun j hj => by
          rcases Nat.lt_or_ge j k with h | h
          · exact hF.out j h
          · obtain rfl : j = k := by omega
            rw [← HY.out]; exact he)
        clear he
        go_wp2
        go_roundw
        case rel => exact ⟨k + 1, by omega, by go_num, ⟨_, rfl⟩, HR⟩
        case measure => simp [intOf]; omega
    · have HR : Hid (memB l x = false) := Lib.hid (by
        simp only [memB, decide_eq_false_iff_not]
        intro hm
        obtain ⟨j, hj, e⟩ := List.getElem_of_mem hm
        exact hF.out j (by omega) (by rw [nth_eq hj]; exact e))
      go_wp2
      go_ret
      exact .of (bool_eq HR.out.symm) _

set_option maxRecDepth 100000 in
theorem refOdd_quiet {S S' : Nat → Prop} {w : World} {va vb : Value} {a b : List Int} (h : Ints S w va a) (hb : Ints S' w vb b) :
    Calls Try.prog 57 #[va, vb] w (QuietP w (.bool (oddV a b))) := by
  obtain ⟨aa, cap, rfl, ad, l1, lm, hc, hwf⟩ := h
  unfold maxLen at lm
  obtain ⟨i, hi, hz1, hz2, hz3⟩ := info_parts info_int
  have HQ := Lib.hid (idx_one Try.underlying38 hi hz2 ad)
  have HC := Lib.hid hc
  have HH := Lib.hid (fun n x => refHas_quiet (hb.drewN n) x)
  clear hc hi hz1 hz2 hz3
  go_enter Try.func57, Try.ntmps57
  go_wp2
  go_loopw [5, 6] (fun o i wr => ∃ k : Nat, k ≤ a.length ∧ i = .int .i64 k ∧ (∃ m, wr = w.drewN m) ∧ o = .bool (oddV (a.take k) b)) (fun _ i _ => a.length - (intOf i).toNat)
  case atStart => exact ⟨0, Nat.zero_le _, rfl, ⟨0, rfl⟩, rfl⟩
  case round =>
    obtain ⟨k, hk, rfl, ⟨m, rfl⟩, rfl⟩ := hrel
    by_cases hlt : k < a.length
    · have q := HQ.out k hlt
      have c := HC.out k hlt
      obtain ⟨y, hy⟩ : ∃ y, y = nth a k := ⟨_, rfl⟩
      rw [← hy] at c
      have HT : Hid (oddV (a.take (k + 1)) b = (oddV (a.take k) b ^^ memB b y)) := Lib.hid (by unfold oddV; rw [take_nth hlt, par_snoc, hy])
      clear hy
      obtain ⟨o, ho⟩ : ∃ o, o = oddV (a.take k) b := ⟨_, rfl⟩
      rw [← ho]
      have HO := Lib.hid ho
      clear ho
      go_wp2_with fail
      refine (HH.out m y).mono ?_
      rintro _ _ ⟨rfl, q, rfl⟩
      cases hm : memB b y with
      | true =>
        have HR : Hid ((!o) = oddV (a.take (k + 1)) b) := Lib.hid (by rw [HT.out, ← HO.out, hm]; simp)
        clear hm
        go_wp2
        go_roundw
        case rel => exact ⟨k + 1, by omega, by go_num, ⟨_, rfl⟩, bool_eq HR.out⟩
        case measure => simp [intOf]; omega
      | false =>
        have HR : Hid (o = oddV (a.take (k + 1)) b) := Lib.hid (by rw [HT.out, ← HO.out, hm]; simp)
        clear hm
        go_wp2
        go_roundw
        case rel => exact ⟨k + 1, by omega, by go_num, ⟨_, rfl⟩, bool_eq HR.out⟩
        case measure => simp [intOf]; omega
    · have HR : Hid (oddV (a.take k) b = oddV a b) := Lib.hid (by rw [List.take_of_length_le (by omega)])
      go_wp2
      go_ret
      exact .of (bool_eq HR.out) _

set_option maxRecDepth 100000 in
theorem odd_calls {S S' : Nat → Prop} {w : World} {va vb : Value} {a b : List Int} (ha : Ints S w va a) (hb : Ints S' w vb b) (oa : Ord a) (ob : Ord b) (hn : a.length + b.length ≤ 1000000) :
    Calls Try.prog 55 #[va, vb] w (Post w fun _ r => r = .bool (oddV a b)) := by
  have HS := Lib.hid (sum_calls ha hb hn)
  obtain ⟨aa, ca, rfl, _⟩ := ha.form
  obtain ⟨ab, cb, rfl, _⟩ := hb.form
  have HO := Lib.hid (oddV_len oa ob)
  have HL := length_xorL oa ob
  have hle : (xorL a b).length ≤ a.length + b.length := by omega
  clear HL
  go_enter Try.func55, Try.ntmps55
  go_wp2_with fail
  refine HS.out.mono ?_
  rintro _ w1 ⟨v, rfl, hb1, iv⟩
  obtain ⟨av, cv, rfl, _⟩ := iv.form
  go_wp2
  go_ret
  refine .mk hb1 (bool_eq ?_)
  rw [HO.out]
  generalize (xorL a b).length = n at hle ⊢
  generalize a.length = x at hle ⊢
  generalize b.length = y at hle ⊢
  rw [Bool.eq_iff_iff]
  simp
  omega
end Go.Proofs.Ytijmjliijjkcbaa
