/- The operations on numbers, on both sides; values of processes in lists. -/
import Derived.Test.YthogcbffnbhalaaDoorExScene
import Derived.Test.YthogcbffnbhalaaDoorExFold
namespace Go.Proofs.YthogcbffnbhalaaDoor
set_option linter.unusedVariables false
open Go.RowKit

def sc0 : Sc := ⟨0, [], [], [], []⟩
theorem twoV_rest (s : Sc) {op : Int} (h : 5 ≤ op) (a b : Int) : twoV s op a b = twoV sc0 op a b := by
  unfold twoV
  rw [if_neg (c := op = 4) (by omega), if_neg (c := op = 4) (by omega)]
theorem beq_dec (a b : Int) : (a == b) = decide (a = b) := rfl
theorem info_int : (Tryd.prog.info? 3).map (fun i => (i.zero, i.size, i.bytes)) = some (some (.int .i64 0), 1, 8) := by kernel_rfl

set_option maxRecDepth 100000 in
set_option maxHeartbeats 1000000 in
theorem refTwo_rest (w : World) (op a b : Int) (cs : Array Value) (h5 : 5 ≤ op) (h11 : op ≤ 11) (ha : -281474976710656 ≤ a ∧ a ≤ 281474976710656) (hb : -281474976710656 ≤ b ∧ b ≤ 281474976710656)
    (h10 : op = 10 → (a = 0 ∨ a = 1) ∧ (b = 0 ∨ b = 1)) :
    Calls Tryd.prog 54 #[.int .i64 op, .int .i64 a, .int .i64 b, .agg cs] w (Post w fun _ r => r = .int .i64 (twoV sc0 op a b)) := by
  obtain ⟨ha0, ha1⟩ := ha
  obtain ⟨hb0, hb1⟩ := hb
  have ex1 := ext_alloc w (.cells cs 39)
  have hop : op = 5 ∨ op = 6 ∨ op = 7 ∨ op = 8 ∨ op = 9 ∨ op = 10 ∨ op = 11 := by omega
  rcases hop with rfl | rfl | rfl | rfl | rfl | rfl | rfl
  · clear h10
    go_enter Tryd.func54, Tryd.ntmps54
    go_wp2
    go_ret
    exact .mk ex1 (int_eq rfl)
  · clear h10
    go_enter Tryd.func54, Tryd.ntmps54
    go_wp2
    go_ret
    exact .mk ex1 (int_eq rfl)
  · clear h10
    go_enter Tryd.func54, Tryd.ntmps54
    go_wp2_with fail
    refine ((flag_quiet _ _).mono fun _ _ h => h.post).mono ?_
    rintro _ w1 ⟨_, rfl, hb1, rfl⟩
    go_wp2
    go_ret
    exact .mk (ext_trans ex1 hb1) (int_eq (by rw [beq_dec]; rfl))
  · clear h10
    go_enter Tryd.func54, Tryd.ntmps54
    go_wp2_with fail
    refine ((flag_quiet _ _).mono fun _ _ h => h.post).mono ?_
    rintro _ w1 ⟨_, rfl, hb1, rfl⟩
    go_wp2
    go_ret
    exact .mk (ext_trans ex1 hb1) (int_eq rfl)
  · clear h10
    go_enter Tryd.func54, Tryd.ntmps54
    go_wp2_with fail
    refine ((flag_quiet _ _).mono fun _ _ h => h.post).mono ?_
    rintro _ w1 ⟨_, rfl, hb1, rfl⟩
    go_wp2
    go_ret
    exact .mk (ext_trans ex1 hb1) (int_eq rfl)
  · obtain ⟨h1, h2⟩ := h10 rfl
    clear h10
    rcases h1 with rfl | rfl <;> rcases h2 with rfl | rfl
    all_goals
      go_enter Tryd.func54, Tryd.ntmps54
      go_wp2
      go_ret
      exact .mk ex1 (int_eq rfl)
  · clear h10
    go_enter Tryd.func54, Tryd.ntmps54
    go_wp2_with fail
    refine ((flag_quiet _ _).mono fun _ _ h => h.post).mono ?_
    rintro _ w1 ⟨_, rfl, hb1, rfl⟩
    go_wp2
    go_ret
    exact .mk (ext_trans ex1 hb1) (int_eq rfl)

set_option maxRecDepth 100000 in
theorem compared_quiet (w : World) (op a b : Int) (h5 : 5 ≤ op) (h9 : op ≤ 9) (ha : -281474976710656 ≤ a ∧ a ≤ 281474976710656) (hb : -281474976710656 ≤ b ∧ b ≤ 281474976710656) :
    Calls Tryd.prog 47 #[.int .i64 op, .int .i64 a, .int .i64 b] w (QuietP w (.int .i64 (cmpV op a b))) := by
  obtain ⟨ha0, ha1⟩ := ha
  obtain ⟨hb0, hb1⟩ := hb
  have hop : op = 5 ∨ op = 6 ∨ op = 7 ∨ op = 8 ∨ op = 9 := by omega
  rcases hop with rfl | rfl | rfl | rfl | rfl
  · go_enter Tryd.func47, Tryd.ntmps47
    go_wp2
    go_ret
    exact .of rfl 0
  · go_enter Tryd.func47, Tryd.ntmps47
    go_wp2
    go_ret
    exact .of rfl 0
  · go_enter Tryd.func47, Tryd.ntmps47
    go_wp2_with fail
    refine (truth_quiet _ _).mono ?_
    rintro _ _ ⟨rfl, n, rfl⟩
    go_wp2
    go_ret
    exact .of (int_eq (by rw [beq_dec]; rfl)) _
  · go_enter Tryd.func47, Tryd.ntmps47
    go_wp2_with fail
    refine (truth_quiet _ _).mono ?_
    rintro _ _ ⟨rfl, n, rfl⟩
    go_wp2
    go_ret
    exact .of (int_eq rfl) _
  · go_enter Tryd.func47, Tryd.ntmps47
    go_wp2_with fail
    refine (truth_quiet _ _).mono ?_
    rintro _ _ ⟨rfl, n, rfl⟩
    go_wp2
    go_ret
    exact .of (int_eq rfl) _

set_option maxRecDepth 100000 in
theorem at_quiet {S : Nat → Prop} {w : World} {v : Value} {l : List Int} (h : Ints S w v l) (p n : Int) :
    Calls Tryd.prog 53 #[v, .int .i64 p, .int .i64 n] w (QuietP w (.int .i64 (atS l p n))) := by
  obtain ⟨a, cap, rfl, ha, _, hm, hc, _⟩ := h
  unfold maxLen at hm
  obtain ⟨i0, hi, hz0, hz1, hz2⟩ := info_parts info_int
  have hix := idx_one Tryd.underlying25 hi hz1 ha
  clear hi hz0 hz1 hz2
  by_cases h0 : p < 0
  · have d0 : decide (p < 0) = true := by simpa using h0
    have HR := Lib.hid (show atS l p n = -1 by unfold atS; rw [if_pos (by omega)])
    go_enter Tryd.func53, Tryd.ntmps53
    go_wp2
    go_ret
    exact .of (int_eq HR.out.symm) 0
  · have d0 : decide (p < 0) = false := by simpa using h0
    by_cases h1 : n ≤ p
    · have d1 : decide (n ≤ p) = true := by simpa using h1
      have HR := Lib.hid (show atS l p n = -1 by unfold atS; rw [if_pos (by omega)])
      go_enter Tryd.func53, Tryd.ntmps53
      go_wp2
      go_ret
      exact .of (int_eq HR.out.symm) 0
    · have d1 : decide (n ≤ p) = false := by simpa using h1
      by_cases h2 : (l.length : Int) ≤ p
      · have d2 : decide ((l.length : Int) ≤ p) = true := by simpa using h2
        have HR := Lib.hid (show atS l p n = -1 by unfold atS; rw [if_pos (by omega)])
        go_enter Tryd.func53, Tryd.ntmps53
        go_wp2
        go_ret
        exact .of (int_eq HR.out.symm) 0
      · have d2 : decide ((l.length : Int) ≤ p) = false := by simpa using h2
        have HR := Lib.hid (show atS l p n = nth l p.toNat by unfold atS; rw [if_neg (by omega)])
        obtain ⟨k, rfl⟩ : ∃ k : Nat, p = k := ⟨p.toNat, by omega⟩
        have q := hix k (by omega)
        have c0 := hc k (by omega)
        clear hix hc
        go_enter Tryd.func53, Tryd.ntmps53
        go_wp2
        go_ret
        exact .of (int_eq HR.out.symm) 0
end Go.Proofs.YthogcbffnbhalaaDoor

