/- The examples of sets, graphs and partitions. -/
import Derived.Test.YtmlgbaogkbfklaaDoorGrK
import Derived.Test.YtmlgbaogkbfklaaDoorPartApi
namespace Go.Proofs.YtmlgbaogkbfklaaDoor
set_option linter.unusedVariables false
open Go.RowKit
attribute [local go_sem ↓] Go.wp_at_zero Go.wp_at_succ

theorem gok_cut {n : Nat} {h : Nat → Nat} (h1 : 1 ≤ n) (hn : n ≤ 5) (hl : ∀ p, p < n → h p < 2 ^ n) (ho : ∀ p, p < n → (h p).testBit p = true) : GOK n (cut n h) where
  pos := h1
  le := hn
  lt := fun p hp => by unfold cut; rw [if_pos hp]; exact hl p hp
  own := fun p hp => by unfold cut; rw [if_pos hp]; exact ho p hp
  zero := fun p hp _ => by unfold cut; rw [if_neg (by omega)]
theorem gok_silent {n : Nat} (h1 : 1 ≤ n) (hn : n ≤ 5) : GOK n (cut n fun p => 2 ^ p) :=
  gok_cut h1 hn (fun p hp => Nat.pow_lt_pow_right (by decide) hp) fun p hp => by rw [Nat.testBit_two_pow_self]
theorem gok_full {n : Nat} (h1 : 1 ≤ n) (hn : n ≤ 5) : GOK n (cut n fun _ => 2 ^ n - 1) :=
  gok_cut h1 hn (fun p hp => by have := (pow_small hn).2; omega) fun p hp => by rw [Nat.testBit_two_pow_sub_one]; simp [hp]

abbrev silV : Value := .agg #[.int .i64 3, .int .i64 1, .int .i64 2, .int .i64 4, .int .i64 0, .int .i64 0]
abbrev fulV : Value := .agg #[.int .i64 3, .int .i64 7, .int .i64 7, .int .i64 7, .int .i64 0, .int .i64 0]
theorem sil_lit : hV 3 (cut 3 fun p => 2 ^ p) = silV := by simp [gV, cut]
theorem ful_lit : hV 3 (cut 3 fun _ => 2 ^ 3 - 1) = fulV := by simp [gV, cut]
theorem prod_lit : hV 3 (cut 3 (prodG (cut 3 fun p => 2 ^ p) (cut 3 fun _ => 2 ^ 3 - 1))) = fulV := by
  have e : ∀ p, p < 5 → cut 3 (prodG (cut 3 fun p => 2 ^ p) (cut 3 fun _ => 2 ^ 3 - 1)) p = cut 3 (fun _ => 2 ^ 3 - 1) p := fun p hp => by
    rcases five hp with rfl | rfl | rfl | rfl | rfl <;> decide +kernel
  rw [hV_congr e, ful_lit]
theorem eq_pf (W : World) : (Op.equalIn 10000 24 fulV fulV).run Tryd.prog W = .ok true W := equal_graph 3 3 (fun p => if p < 3 then 7 else 0) (fun p => if p < 3 then 7 else 0) W
theorem eq_sf (W : World) : (Op.equalIn 10000 24 silV fulV).run Tryd.prog W = .ok false W := equal_graph 3 3 (fun p => if p = 0 then 1 else if p = 1 then 2 else if p = 2 then 4 else 0) (fun p => if p < 3 then 7 else 0) W
theorem meet_lit : meetR [0, 0, 1] [0, 1, 1] = ([0, 1, 2], 0) := by decide
theorem Row.six' {w : World} {g : Nat} {e : TypeId} {a b c d x y : Value} (h : Row w g e [a, b, c, d, x, y]) :
    w.cell? ⟨g, 0, none⟩ = some a ∧ w.cell? ⟨g, 1, none⟩ = some b ∧ w.cell? ⟨g, 2, none⟩ = some c ∧ w.cell? ⟨g, 3, none⟩ = some d ∧ w.cell? ⟨g, 4, none⟩ = some x ∧ w.cell? ⟨g, 5, none⟩ = some y :=
  ⟨h.cell rfl, h.cell rfl, h.cell rfl, h.cell rfl, h.cell rfl, h.cell rfl⟩
set_option maxRecDepth 100000 in
set_option maxHeartbeats 4000000 in
theorem awake_calls {w : World} (T : Tab w) : Calls Tryd.prog 6 #[] w (Post w fun _ r => r = .bool true) := by
  have K1 := Lib.hid (of_calls (w := w.alloc (.cells #[.int .i64 2, .int .i64 0] 3)) (l := [2, 0]) (n := 3) (by decide) (by decide) (lit_ints w _ rfl [2, 0] 3 (by decide) (by decide)) (by decide) (by decide))
  have K2 := Lib.hid fun W => silent_calls W (n := 3) (by decide) (by decide)
  have K3 := Lib.hid fun W => complete_calls W (n := 3) (by decide) (by decide)
  have K4 := Lib.hid fun W (hW : Below w.heap.size w W) => compose_calls (T.ext hW) (gok_silent (n := 3) (by decide) (by decide)) (gok_full (n := 3) (by decide) (by decide))
  rw [sil_lit] at K2
  rw [ful_lit] at K3
  rw [sil_lit, ful_lit, prod_lit] at K4
  have h5 : setN [2, 0] = 5 := by decide
  rw [h5] at K1
  have E1 := eq_pf
  have E2 := eq_sf
  have EG1 : Tryd.prog.eqGuardType Tryd.prog.depth 24 = false := by kernel_rfl
  clear h5 T
  have ex1 := ext_alloc w (.cells #[.int .i64 2, .int .i64 0] 3)
  go_enter Tryd.func6, Tryd.ntmps6
  go_wp2_with fail
  refine K1.out.mono ?_
  rintro _ w1 ⟨_, rfl, hb1, rfl⟩
  have ex1 := ext_trans ex1 hb1
  go_wp2_with fail
  refine (K2.out _).mono ?_
  rintro _ w2 ⟨_, rfl, hb2, rfl⟩
  have ex2 := ext_trans ex1 hb2
  have ra := row_new w2 [.int .i64 3, .int .i64 1, .int .i64 2, .int .i64 4, .int .i64 0, .int .i64 0] 24
  have ex2' := ext_alloc' ex2 (.cells #[.int .i64 3, .int .i64 1, .int .i64 2, .int .i64 4, .int .i64 0, .int .i64 0] 24)
  go_wp2_with fail
  refine (K3.out _).mono ?_
  rintro _ w3 ⟨_, rfl, hb3, rfl⟩
  have ex3 := ext_trans ex2' hb3
  have ra := ra.ext hb3
  have rb := row_new w3 [.int .i64 3, .int .i64 7, .int .i64 7, .int .i64 7, .int .i64 0, .int .i64 0] 24
  have ra := ra.alloc (.cells #[.int .i64 3, .int .i64 7, .int .i64 7, .int .i64 7, .int .i64 0, .int .i64 0] 24)
  have ex3' := ext_alloc' ex3 (.cells #[.int .i64 3, .int .i64 7, .int .i64 7, .int .i64 7, .int .i64 0, .int .i64 0] 24)
  obtain ⟨a0, a1, a2, a3, a4, a5⟩ := ra.six'
  obtain ⟨b0, b1, b2, b3, b4, b5⟩ := rb.six'
  clear hb1 hb2 hb3 ex1 ex2 ex3 K1 K2 K3 ex2'
  go_wp2_with fail
  refine (K4.out _ ex3').mono ?_
  rintro _ w4 ⟨_, rfl, hb4, rfl⟩
  clear a0 a1 a2 a3 a4 a5 b0 b1 b2 b3 b4 b5
  have ex4 := ext_trans ex3' hb4
  have ra := ra.ext hb4
  have rb := rb.ext hb4
  have rc := row_new w4 [.int .i64 3, .int .i64 7, .int .i64 7, .int .i64 7, .int .i64 0, .int .i64 0] 24
  have ex5 := ext_alloc' (ext_alloc' (ext_alloc' ex4 (.cells #[.int .i64 3, .int .i64 7, .int .i64 7, .int .i64 7, .int .i64 0, .int .i64 0] 24)) (.cells #[.int .i64 0, .int .i64 0, .int .i64 1] 3)) (.cells #[.int .i64 0, .int .i64 1, .int .i64 1] 3)
  have l1 := (lit_ints (w4.alloc (.cells #[.int .i64 3, .int .i64 7, .int .i64 7, .int .i64 7, .int .i64 0, .int .i64 0] 24)) _ rfl [0, 0, 1] 3 (by decide) (by decide)).ext (ext_alloc _ (.cells #[.int .i64 0, .int .i64 1, .int .i64 1] 3))
  have l2 := lit_ints ((w4.alloc (.cells #[.int .i64 3, .int .i64 7, .int .i64 7, .int .i64 7, .int .i64 0, .int .i64 0] 24)).alloc (.cells #[.int .i64 0, .int .i64 0, .int .i64 1] 3)) _ rfl [0, 1, 1] 3 (by decide) (by decide)
  have KM := Lib.hid (meetApi_calls l1 l2)
  rw [meet_lit] at KM
  simp only [World.size_alloc] at KM
  have ra := ((ra.alloc (.cells #[.int .i64 3, .int .i64 7, .int .i64 7, .int .i64 7, .int .i64 0, .int .i64 0] 24)).alloc (.cells #[.int .i64 0, .int .i64 0, .int .i64 1] 3)).alloc (.cells #[.int .i64 0, .int .i64 1, .int .i64 1] 3)
  have rb := ((rb.alloc (.cells #[.int .i64 3, .int .i64 7, .int .i64 7, .int .i64 7, .int .i64 0, .int .i64 0] 24)).alloc (.cells #[.int .i64 0, .int .i64 0, .int .i64 1] 3)).alloc (.cells #[.int .i64 0, .int .i64 1, .int .i64 1] 3)
  have rc := (rc.alloc (.cells #[.int .i64 0, .int .i64 0, .int .i64 1] 3)).alloc (.cells #[.int .i64 0, .int .i64 1, .int .i64 1] 3)
  clear l1 l2 hb4 ex3' ex4 K4
  go_wp2_with fail
  refine KM.out.mono ?_
  rintro _ w6 ⟨_, rfl, hb6, v6, rfl, hI⟩
  have ex6 := ext_trans ex5 hb6
  have ra := ra.ext hb6
  have rb := rb.ext hb6
  have rc := rc.ext hb6
  obtain ⟨a6, c6, rfl, _⟩ := hI.form
  have l3 := lit_ints w6 _ rfl [0, 1, 2] 3 (by decide) (by decide)
  have KE := Lib.hid (equal_calls (hI.ext (ext_alloc w6 (.cells #[.int .i64 0, .int .i64 1, .int .i64 2] 3))) l3)
  have ex7 := ext_alloc' ex6 (.cells #[.int .i64 0, .int .i64 1, .int .i64 2] 3)
  obtain ⟨a0, a1, a2, a3, a4, a5⟩ := ra.six'
  obtain ⟨b0, b1, b2, b3, b4, b5⟩ := rb.six'
  obtain ⟨c0, c1, c2, c3, c4, c5⟩ := rc.six'
  clear KM hI l3 hb6 ex5 ex6
  go_wp2_with fail
  refine KE.out.mono ?_
  rintro _ w7 ⟨_, rfl, hb7, rfl⟩
  have ex8 := ext_trans ex7 hb7
  clear a0 a1 a2 a3 a4 a5 b0 b1 b2 b3 b4 b5 c0 c1 c2 c3 c4 c5 KE
  go_wp2
  go_ret
  exact .mk ex8 rfl
end Go.Proofs.YtmlgbaogkbfklaaDoor
