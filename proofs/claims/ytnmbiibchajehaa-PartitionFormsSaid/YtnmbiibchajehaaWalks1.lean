/- The walks of the statements that compare package partition with its reference. -/
import Derived.Test.YtnmbiibchajehaaAwake
namespace Go.Proofs.Ytnmbiibchajehaa
set_option linter.unusedVariables false
open Go.RowKit

set_option maxRecDepth 100000 in
set_option maxHeartbeats 2000000 in
theorem walkPartitionRefines {Sa Sb : Nat → Prop} {w : World} {va vb : Value} {a b : List Int} (ha : Ints Sa w va a) (hb : Ints Sb w vb b) :
    Calls Try.prog 7 #[va, vb] w (Post w fun _ r => r = .bool true) := by
  have ka0 := ha
  obtain ⟨aa, capa, rfl, _⟩ := ka0
  have kb0 := hb
  obtain ⟨ab, capb, rfl, _⟩ := kb0
  go_enter Try.func7, Try.ntmps7
  go_wp2_with fail
  have L := lit_lists w _ rfl [.slice aa a.length capa, .slice ab b.length capb] [a, b] 22 ⟨ha.all, hb.all, trivial⟩ (by simp)
  have ex1 := ext_alloc w (.cells #[.slice aa a.length capa, .slice ab b.length capb] 22)
  refine (few_calls L).mono ?_
  rintro _ w1 ⟨_, rfl, hb1, rfl⟩
  have ex2 := ext_trans ex1 hb1
  clear L
  cases fb : (![a, b].any fewBad) with
  | false =>
    have Hfb := Lib.hid fb
    clear fb
    go_wp2_with fail
    refine (awake_calls _).mono ?_
    rintro _ w2 ⟨_, rfl, hb2, rfl⟩
    have ex3 := ext_trans ex2 hb2
    go_wp2_with fail
    go_ret
    exact .mk ex3 rfl
  | true =>
    have Hfb := Lib.hid fb
    clear fb
    go_wp2_with fail
    refine (refine_calls (ha.ext ex2) (hb.ext ex2)).mono ?_
    rintro _ w2 ⟨_, rfl, hb2, v2, rfl, i2⟩
    have ex3 := ext_trans ex2 hb2
    go_wp2_with fail
    refine (refRefine_calls (ha.ext ex3) (hb.ext ex3)).mono ?_
    rintro _ w3 ⟨_, rfl, hb3, v3, rfl, i3⟩
    have ex4 := ext_trans ex3 hb3
    have ex5 := ext_trans hb2 hb3
    go_wp2_with fail
    refine (sameInts_calls (i2.ext hb3) i3).mono ?_
    rintro _ w4 ⟨_, rfl, hb4, rfl⟩
    have ex6 := ext_trans ex4 hb4
    have ex7 := ext_trans ex5 hb4
    have ex8 := ext_trans hb3 hb4
    rw [decide_eq_true (rfl : (refineR a b).1 = (refineR a b).1)]
    go_wp2_with fail
    refine (awake_calls _).mono ?_
    rintro _ w5 ⟨_, rfl, hb5, rfl⟩
    have ex9 := ext_trans ex6 hb5
    have ex10 := ext_trans ex7 hb5
    have ex11 := ext_trans ex8 hb5
    have ex12 := ext_trans hb4 hb5
    go_wp2_with fail
    go_ret
    exact .mk ex9 rfl

set_option maxRecDepth 100000 in
set_option maxHeartbeats 2000000 in
theorem walkPartitionChecks {Sa : Nat → Prop} {w : World} {va : Value} {a : List Int} (ha : Ints Sa w va a) :
    Calls Try.prog 5 #[va] w (Post w fun _ r => r = .bool true) := by
  have ka0 := ha
  obtain ⟨aa, capa, rfl, _⟩ := ka0
  go_enter Try.func5, Try.ntmps5
  go_wp2_with fail
  have L := lit_lists w _ rfl [.slice aa a.length capa] [a] 22 ⟨ha.all, trivial⟩ (by simp)
  have ex1 := ext_alloc w (.cells #[.slice aa a.length capa] 22)
  refine (few_calls L).mono ?_
  rintro _ w1 ⟨_, rfl, hb1, rfl⟩
  have ex2 := ext_trans ex1 hb1
  clear L
  cases fb : (![a].any fewBad) with
  | false =>
    have Hfb := Lib.hid fb
    clear fb
    go_wp2_with fail
    refine (awake_calls _).mono ?_
    rintro _ w2 ⟨_, rfl, hb2, rfl⟩
    have ex3 := ext_trans ex2 hb2
    go_wp2_with fail
    go_ret
    exact .mk ex3 rfl
  | true =>
    have Hfb := Lib.hid fb
    clear fb
    go_wp2_with fail
    refine (classes_calls (ha.ext ex2)).mono ?_
    rintro _ w2 ⟨_, rfl, hb2, v2, rfl, i2⟩
    have ex3 := ext_trans ex2 hb2
    go_wp2_with fail
    refine (refClasses_calls (ha.ext ex3)).mono ?_
    rintro _ w3 ⟨_, rfl, hb3, v3, rfl, i3⟩
    have ex4 := ext_trans ex3 hb3
    have ex5 := ext_trans hb2 hb3
    go_wp2_with fail
    refine (count_calls (ha.ext ex4)).mono ?_
    rintro _ w4 ⟨_, rfl, hb4, rfl⟩
    have ex6 := ext_trans ex4 hb4
    have ex7 := ext_trans ex5 hb4
    have ex8 := ext_trans hb3 hb4
    go_wp2_with fail
    refine (refCount_calls (ha.ext ex6)).mono ?_
    rintro _ w5 ⟨_, rfl, hb5, rfl⟩
    have ex9 := ext_trans ex6 hb5
    have ex10 := ext_trans ex7 hb5
    have ex11 := ext_trans ex8 hb5
    have ex12 := ext_trans hb4 hb5
    go_wp2_with fail
    refine (check_calls (ha.ext ex9)).mono ?_
    rintro _ w6 ⟨_, rfl, hb6, rfl⟩
    have ex13 := ext_trans ex9 hb6
    have ex14 := ext_trans ex10 hb6
    have ex15 := ext_trans ex11 hb6
    have ex16 := ext_trans ex12 hb6
    have ex17 := ext_trans hb5 hb6
    go_wp2_with fail
    refine (refCheck_calls (ha.ext ex13)).mono ?_
    rintro _ w7 ⟨_, rfl, hb7, rfl⟩
    have ex18 := ext_trans ex13 hb7
    have ex19 := ext_trans ex14 hb7
    have ex20 := ext_trans ex15 hb7
    have ex21 := ext_trans ex16 hb7
    have ex22 := ext_trans ex17 hb7
    have ex23 := ext_trans hb6 hb7
    go_wp2_with fail
    refine (sameLists_calls (i2.ext ex20) (i3.ext ex21)).mono ?_
    rintro _ w8 ⟨_, rfl, hb8, rfl⟩
    have ex24 := ext_trans ex18 hb8
    have ex25 := ext_trans ex19 hb8
    have ex26 := ext_trans ex20 hb8
    have ex27 := ext_trans ex21 hb8
    have ex28 := ext_trans ex22 hb8
    have ex29 := ext_trans ex23 hb8
    have ex30 := ext_trans hb7 hb8
    rw [decide_eq_true (rfl : (classesR a).1 = (classesR a).1)]
    go_wp2_with fail
    refine (awake_calls _).mono ?_
    rintro _ w9 ⟨_, rfl, hb9, rfl⟩
    have ex31 := ext_trans ex24 hb9
    have ex32 := ext_trans ex25 hb9
    have ex33 := ext_trans ex26 hb9
    have ex34 := ext_trans ex27 hb9
    have ex35 := ext_trans ex28 hb9
    have ex36 := ext_trans ex29 hb9
    have ex37 := ext_trans ex30 hb9
    have ex38 := ext_trans hb8 hb9
    go_wp2_with fail
    go_ret
    exact .mk ex31 rfl

set_option maxRecDepth 100000 in
set_option maxHeartbeats 2000000 in
theorem walkPartitionCombines {Sa Sb : Nat → Prop} {w : World} {va vb : Value} {a b : List Int} (ha : Ints Sa w va a) (hb : Ints Sb w vb b) :
    Calls Try.prog 8 #[va, vb] w (Post w fun _ r => r = .bool true) := by
  have ka0 := ha
  obtain ⟨aa, capa, rfl, _⟩ := ka0
  have kb0 := hb
  obtain ⟨ab, capb, rfl, _⟩ := kb0
  go_enter Try.func8, Try.ntmps8
  go_wp2_with fail
  have L := lit_lists w _ rfl [.slice aa a.length capa, .slice ab b.length capb] [a, b] 22 ⟨ha.all, hb.all, trivial⟩ (by simp)
  have ex1 := ext_alloc w (.cells #[.slice aa a.length capa, .slice ab b.length capb] 22)
  refine (few_calls L).mono ?_
  rintro _ w1 ⟨_, rfl, hb1, rfl⟩
  have ex2 := ext_trans ex1 hb1
  clear L
  cases fb : (![a, b].any fewBad) with
  | false =>
    have Hfb := Lib.hid fb
    clear fb
    go_wp2_with fail
    refine (awake_calls _).mono ?_
    rintro _ w2 ⟨_, rfl, hb2, rfl⟩
    have ex3 := ext_trans ex2 hb2
    go_wp2_with fail
    go_ret
    exact .mk ex3 rfl
  | true =>
    have Hfb := Lib.hid fb
    clear fb
    go_wp2_with fail
    refine (finer_calls (ha.ext ex2) (hb.ext ex2)).mono ?_
    rintro _ w2 ⟨_, rfl, hb2, rfl⟩
    have ex3 := ext_trans ex2 hb2
    go_wp2_with fail
    refine (refFiner_calls (ha.ext ex3) (hb.ext ex3)).mono ?_
    rintro _ w3 ⟨_, rfl, hb3, rfl⟩
    have ex4 := ext_trans ex3 hb3
    have ex5 := ext_trans hb2 hb3
    go_wp2_with fail
    refine (meetApi_calls (ha.ext ex4) (hb.ext ex4)).mono ?_
    rintro _ w4 ⟨_, rfl, hb4, v4, rfl, i4⟩
    have ex6 := ext_trans ex4 hb4
    have ex7 := ext_trans ex5 hb4
    have ex8 := ext_trans hb3 hb4
    go_wp2_with fail
    refine (refMeet_calls (ha.ext ex6) (hb.ext ex6)).mono ?_
    rintro _ w5 ⟨_, rfl, hb5, v5, rfl, i5⟩
    have ex9 := ext_trans ex6 hb5
    have ex10 := ext_trans ex7 hb5
    have ex11 := ext_trans ex8 hb5
    have ex12 := ext_trans hb4 hb5
    go_wp2_with fail
    refine (join_calls (ha.ext ex9) (hb.ext ex9)).mono ?_
    rintro _ w6 ⟨_, rfl, hb6, v6, rfl, i6⟩
    have ex13 := ext_trans ex9 hb6
    have ex14 := ext_trans ex10 hb6
    have ex15 := ext_trans ex11 hb6
    have ex16 := ext_trans ex12 hb6
    have ex17 := ext_trans hb5 hb6
    go_wp2_with fail
    refine (refJoin_calls (ha.ext ex13) (hb.ext ex13)).mono ?_
    rintro _ w7 ⟨_, rfl, hb7, v7, rfl, i7⟩
    have ex18 := ext_trans ex13 hb7
    have ex19 := ext_trans ex14 hb7
    have ex20 := ext_trans ex15 hb7
    have ex21 := ext_trans ex16 hb7
    have ex22 := ext_trans ex17 hb7
    have ex23 := ext_trans hb6 hb7
    go_wp2_with fail
    refine (sameInts_calls (i4.ext ex22) (i5.ext ex23)).mono ?_
    rintro _ w8 ⟨_, rfl, hb8, rfl⟩
    have ex24 := ext_trans ex18 hb8
    have ex25 := ext_trans ex19 hb8
    have ex26 := ext_trans ex20 hb8
    have ex27 := ext_trans ex21 hb8
    have ex28 := ext_trans ex22 hb8
    have ex29 := ext_trans ex23 hb8
    have ex30 := ext_trans hb7 hb8
    rw [decide_eq_true (rfl : (meetR a b).1 = (meetR a b).1)]
    go_wp2_with fail
    refine (sameInts_calls (i6.ext ex30) (i7.ext hb8)).mono ?_
    rintro _ w9 ⟨_, rfl, hb9, rfl⟩
    have ex31 := ext_trans ex24 hb9
    have ex32 := ext_trans ex25 hb9
    have ex33 := ext_trans ex26 hb9
    have ex34 := ext_trans ex27 hb9
    have ex35 := ext_trans ex28 hb9
    have ex36 := ext_trans ex29 hb9
    have ex37 := ext_trans ex30 hb9
    have ex38 := ext_trans hb8 hb9
    rw [decide_eq_true (rfl : (joinR a b).1 = (joinR a b).1)]
    go_wp2_with fail
    refine (awake_calls _).mono ?_
    rintro _ w10 ⟨_, rfl, hb10, rfl⟩
    have ex39 := ext_trans ex31 hb10
    have ex40 := ext_trans ex32 hb10
    have ex41 := ext_trans ex33 hb10
    have ex42 := ext_trans ex34 hb10
    have ex43 := ext_trans ex35 hb10
    have ex44 := ext_trans ex36 hb10
    have ex45 := ext_trans ex37 hb10
    have ex46 := ext_trans ex38 hb10
    have ex47 := ext_trans hb9 hb10
    go_wp2_with fail
    go_ret
    exact .mk ex39 rfl

set_option maxRecDepth 100000 in
set_option maxHeartbeats 2000000 in
theorem walkPartitionForms {Sa Sb : Nat → Prop} {w : World} {va vb : Value} {a b : List Int} (ha : Ints Sa w va a) (hb : Ints Sb w vb b) (p : Int × Int) :
    Calls Try.prog 6 #[va, vb, .agg #[.int .i64 p.1, .int .i64 p.2]] w (Post w fun _ r => r = .bool true) := by
  have ka0 := ha
  obtain ⟨aa, capa, rfl, _⟩ := ka0
  have kb0 := hb
  obtain ⟨ab, capb, rfl, _⟩ := kb0
  go_enter Try.func6, Try.ntmps6
  go_wp2_with fail
  have ex1 := ext_alloc w (.cells #[.int .i64 p.1, .int .i64 p.2] 45)
  obtain ⟨wx, hwx⟩ : ∃ wx : World, wx = w.alloc (.cells #[.int .i64 p.1, .int .i64 p.2] 45) := ⟨_, rfl⟩
  have pc1 : wx.cell? ⟨w.heap.size, 0, none⟩ = some (.int .i64 p.1) := by rw [hwx, World.cell?_alloc_new]; rfl
  have pc2 : wx.cell? ⟨w.heap.size, 1, none⟩ = some (.int .i64 p.2) := by rw [hwx, World.cell?_alloc_new]; rfl
  have pl : w.heap.size < wx.heap.size := by rw [hwx]; simp
  have pz : wx.heap.size = w.heap.size + 1 := by rw [hwx]; simp
  have ex0 : Below w.heap.size w wx := by rw [hwx]; exact ext_alloc w _
  have hax := ha.ext ex0
  have hbx := hb.ext ex0
  have L := lit_lists wx (w.heap.size + 1) pz.symm [.slice aa a.length capa, .slice ab b.length capb] [a, b] 22 ⟨hax.all, hbx.all, trivial⟩ (by simp)
  rw [← hwx]
  have PZ := Lib.hid pz
  clear pz hwx ex1
  have ex11 := ext_alloc wx (.cells #[.slice aa a.length capa, .slice ab b.length capb] 22)
  refine (few_calls L).mono ?_
  rintro _ w1 ⟨_, rfl, hb1, rfl⟩
  have ex12 := ext_trans ex11 hb1
  clear L
  cases fb : (![a, b].any fewBad) with
  | false =>
    have Hfb := Lib.hid fb
    clear fb
    go_wp2_with fail
    refine (awake_calls _).mono ?_
    rintro _ w2 ⟨_, rfl, hb2, rfl⟩
    have ex13 := ext_trans ex12 hb2
    go_wp2_with fail
    go_ret
    exact .mk (ext_trans ex0 ex13) rfl
  | true =>
    have Hfb := Lib.hid fb
    clear fb
    go_wp2_with fail
    refine (of_calls (hax.ext ex12)).mono ?_
    rintro _ w2 ⟨_, rfl, hb2, v2, rfl, i2⟩
    have ex13 := ext_trans ex12 hb2
    go_wp2_with fail
    refine (refOf_calls (hax.ext ex13)).mono ?_
    rintro _ w3 ⟨_, rfl, hb3, v3, rfl, i3⟩
    have ex14 := ext_trans ex13 hb3
    have ex15 := ext_trans hb2 hb3
    have qc1 := (Below.cell ex14 (p := ⟨w.heap.size, 0, none⟩) pl).trans pc1
    have qc2 := (Below.cell ex14 (p := ⟨w.heap.size, 1, none⟩) pl).trans pc2
    go_wp2_with fail
    refine (same_calls (hbx.ext ex14) p.1 p.2).mono ?_
    rintro _ w4 ⟨_, rfl, hb4, rfl⟩
    have ex16 := ext_trans ex14 hb4
    have ex17 := ext_trans ex15 hb4
    have ex18 := ext_trans hb3 hb4
    have qc1 := (Below.cell ex16 (p := ⟨w.heap.size, 0, none⟩) pl).trans pc1
    have qc2 := (Below.cell ex16 (p := ⟨w.heap.size, 1, none⟩) pl).trans pc2
    go_wp2_with fail
    refine (refSame_calls (hbx.ext ex16) p.1 p.2).mono ?_
    rintro _ w5 ⟨_, rfl, hb5, rfl⟩
    have ex19 := ext_trans ex16 hb5
    have ex20 := ext_trans ex17 hb5
    have ex21 := ext_trans ex18 hb5
    have ex22 := ext_trans hb4 hb5
    go_wp2_with fail
    refine (sameInts_calls (i2.ext ex21) (i3.ext ex22)).mono ?_
    rintro _ w6 ⟨_, rfl, hb6, rfl⟩
    have ex23 := ext_trans ex19 hb6
    have ex24 := ext_trans ex20 hb6
    have ex25 := ext_trans ex21 hb6
    have ex26 := ext_trans ex22 hb6
    have ex27 := ext_trans hb5 hb6
    rw [decide_eq_true (rfl : (ofS a).1 = (ofS a).1)]
    have eB : ((sameR b p.1 p.2).1 == (sameR b p.1 p.2).1) = true := by simp
    go_wp2_with fail
    refine (awake_calls _).mono ?_
    rintro _ w7 ⟨_, rfl, hb7, rfl⟩
    have ex28 := ext_trans ex23 hb7
    have ex29 := ext_trans ex24 hb7
    have ex30 := ext_trans ex25 hb7
    have ex31 := ext_trans ex26 hb7
    have ex32 := ext_trans ex27 hb7
    have ex33 := ext_trans hb6 hb7
    go_wp2_with fail
    go_ret
    exact .mk (ext_trans ex0 ex28) rfl

end Go.Proofs.Ytnmbiibchajehaa
