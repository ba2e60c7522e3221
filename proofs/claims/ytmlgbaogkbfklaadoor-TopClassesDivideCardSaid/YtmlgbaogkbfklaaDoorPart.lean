/- Contracts: the checks of package partition and of the reference. -/
import Derived.Test.YtmlgbaogkbfklaaDoorSlices
import Derived.Test.YtmlgbaogkbfklaaDoorLabels
namespace Go.Proofs.YtmlgbaogkbfklaaDoor
set_option linter.unusedVariables false
open Go.RowKit

def checkTo : List Int → Int → Int
  | [], _ => 0
  | x :: l, n => if x < 0 then 2 else if n < x then 14 else if x = n then checkTo l (n + 1) else checkTo l n
/-- The number of the error of a partition. -/
def checkS (l : List Int) : Int := if 65536 < l.length then 5 else checkTo l 0

theorem check_done {l : List Int} {k : Nat} {m : Int} (hb : ¬ 65536 < l.length) (h : checkTo (l.drop k) m = checkTo l 0) {c : Int} (hc : checkTo (l.drop k) m = c) : Value.int .i64 c = Value.int .i64 (checkS l) := by
  simp [checkS, hb, ← h, hc]

set_option maxRecDepth 100000 in
theorem check_calls {S : Nat → Prop} {w : World} {v : Value} {l : List Int} (h : Ints S w v l) :
    Calls Tryd.prog 54 #[v] w (Post w fun _ r => r = .int .i64 (checkS l)) := by
  obtain ⟨a, cap, rfl, ha, h1, h2, hc, hf⟩ := h
  unfold maxLen at h2
  obtain ⟨i0, hi, hz0, hz1, hz2⟩ := info_parts info_int
  have hix := idx_one Tryd.underlying33 hi hz1 ha
  clear hi hz0 hz1 hz2
  go_enter Tryd.func54, Tryd.ntmps54
  by_cases hbig : 65536 < l.length
  · go_wp2
    go_ret
    exact .same (by simp [checkS, hbig])
  · go_wp2
    go_loop [3, 11] (fun n i => ∃ k : Nat, ∃ m : Int, k ≤ l.length ∧ 0 ≤ m ∧ m ≤ k ∧ i = .int .i64 k ∧ n = .int .i64 m ∧ checkTo (l.drop k) m = checkTo l 0) (fun _ i => l.length - (intOf i).toNat)
    case atStart => exact ⟨0, 0, by omega, by omega, by omega, rfl, rfl, rfl⟩
    case round =>
      obtain ⟨k, m, hk, hm0, hmk, rfl, rfl, hrel⟩ := hrel
      have H := Lib.hid hrel
      clear hrel
      by_cases hlt : k < l.length
      · have HS := Lib.hid (drop_nth hlt)
        go_wp2
        · go_ret
          exact .same (check_done hbig H.out (by rw [HS.out, checkTo, if_pos ‹_›]))
        · go_ret
          exact .same (check_done hbig H.out (by rw [HS.out, checkTo, if_neg (by omega), if_pos ‹_›]))
        · go_round
          case rel => exact ⟨k + 1, m + 1, by omega, by omega, by omega, by go_num, rfl, by rw [← H.out, HS.out, checkTo, if_neg (by omega), if_neg (by omega), if_pos (beq_iff_eq.1 ‹_›)]⟩
          case measure => simp [intOf]; omega
        · go_round
          case rel => exact ⟨k + 1, m, by omega, by omega, by omega, by go_num, rfl, by rw [← H.out, HS.out, checkTo, if_neg (by omega), if_neg (by omega), if_neg (beq_eq_false_iff_ne.1 ‹_›)]⟩
          case measure => simp [intOf]; omega
      · go_wp2
        go_ret
        exact .same (check_done hbig H.out (by rw [List.drop_of_length_le (by omega), checkTo]))

set_option maxRecDepth 100000 in
theorem refCheck_calls {S : Nat → Prop} {w : World} {v : Value} {l : List Int} (h : Ints S w v l) :
    Calls Tryd.prog 17 #[v] w (Post w fun _ r => r = .int .i64 (checkS l)) := by
  obtain ⟨a, cap, rfl, ha, h1, h2, hc, hf⟩ := h
  unfold maxLen at h2
  obtain ⟨i0, hi, hz0, hz1, hz2⟩ := info_parts info_int
  have hix := idx_one Tryd.underlying33 hi hz1 ha
  clear hi hz0 hz1 hz2
  go_enter Tryd.func17, Tryd.ntmps17
  by_cases hbig : 65536 < l.length
  · go_wp2
    go_ret
    exact .same (by simp [checkS, hbig])
  · go_wp2
    go_loop [3, 4] (fun n i => ∃ k : Nat, ∃ m : Int, k ≤ l.length ∧ 0 ≤ m ∧ m ≤ k ∧ i = .int .i64 k ∧ n = .int .i64 m ∧ checkTo (l.drop k) m = checkTo l 0) (fun _ i => l.length - (intOf i).toNat)
    case atStart => exact ⟨0, 0, by omega, by omega, by omega, rfl, rfl, rfl⟩
    case round =>
      obtain ⟨k, m, hk, hm0, hmk, rfl, rfl, hrel⟩ := hrel
      have H := Lib.hid hrel
      clear hrel
      by_cases hlt : k < l.length
      · have HS := Lib.hid (drop_nth hlt)
        go_wp2
        · go_ret
          exact .same (check_done hbig H.out (by rw [HS.out, checkTo, if_pos ‹_›]))
        · go_ret
          exact .same (check_done hbig H.out (by rw [HS.out, checkTo, if_neg (by omega), if_pos ‹_›]))
        · go_round
          case rel => exact ⟨k + 1, m + 1, by omega, by omega, by omega, by go_num, rfl, by rw [← H.out, HS.out, checkTo, if_neg (by omega), if_neg (by omega), if_pos (beq_iff_eq.1 ‹_›)]⟩
          case measure => simp [intOf]; omega
        · go_round
          case rel => exact ⟨k + 1, m, by omega, by omega, by omega, by go_num, rfl, by rw [← H.out, HS.out, checkTo, if_neg (by omega), if_neg (by omega), if_neg (beq_eq_false_iff_ne.1 ‹_›)]⟩
          case measure => simp [intOf]; omega
      · go_wp2
        go_ret
        exact .same (check_done hbig H.out (by rw [List.drop_of_length_le (by omega), checkTo]))

/-- The number of the error of two partitions. -/
def bothS (a b : List Int) : Int := if checkS a ≠ 0 then checkS a else if checkS b ≠ 0 then checkS b else if a.length ≠ b.length then 15 else 0

set_option maxRecDepth 100000 in
theorem both_calls {S S' : Nat → Prop} {w : World} {va vb : Value} {a b : List Int} (ha : Ints S w va a) (hb : Ints S' w vb b) :
    Calls Tryd.prog 40 #[va, vb] w (Post w fun _ r => r = .int .i64 (bothS a b)) := by
  have ka := ha
  have kb := hb
  obtain ⟨aa, capa, rfl, _⟩ := ka
  obtain ⟨ab, capb, rfl, _⟩ := kb
  go_enter Tryd.func40, Tryd.ntmps40
  go_wp2
  have hb0 : Below w.heap.size w (w.alloc (.cells #[.slice aa a.length capa, .slice ab b.length capb] 33)) := (Below.refl _ _).alloc (Nat.le_refl _) _
  refine wp_loop_rounds 3 ?_
  rw [rounds_succ]
  go_wp2_with fail
  refine (check_calls (ha.ext hb0)).mono ?_
  rintro _ w1 ⟨_, rfl, hb1, rfl⟩
  have c1 : w1.cell? ⟨w.heap.size, 1, none⟩ = some (.slice ab b.length capb) := by
    rw [hb1.cell (p := ⟨w.heap.size, 1, none⟩) (by simp)]; simp
  go_wp2_with fail
  · go_ret
    exact .mk (ext_trans hb0 hb1) (int_eq (by simp_all [bothS]))
  · rw [rounds_succ]
    go_wp2_with fail
    refine (check_calls ((hb.ext hb0).ext hb1)).mono ?_
    rintro _ w2 ⟨_, rfl, hb2, rfl⟩
    go_wp2_with fail
    · go_ret
      exact .mk (ext_trans hb0 (ext_trans hb1 hb2)) (int_eq (by simp_all [bothS]))
    · rw [rounds_succ]
      by_cases hl : a.length = b.length
      · have e3 : ((a.length : Int) != b.length) = false := by simp [hl]
        have HL := Lib.hid hl
        clear hl
        go_wp2_with fail
        go_ret
        exact .mk (ext_trans hb0 (ext_trans hb1 hb2)) (int_eq (by have := HL.out; simp_all [bothS]))
      · have e3 : ((a.length : Int) != b.length) = true := by simp; omega
        have HL := Lib.hid hl
        clear hl
        go_wp2_with fail
        go_ret
        exact .mk (ext_trans hb0 (ext_trans hb1 hb2)) (int_eq (by have := HL.out; simp_all [bothS]))

end Go.Proofs.YtmlgbaogkbfklaaDoor
