/- The walks of the statements on the lattice of partitions. -/
import Derived.Test.YtnmbiibchajehaaAwake
import Derived.Test.YtnmbiibchajehaaPartLaw
namespace Go.Proofs.Ytnmbiibchajehaa
set_option linter.unusedVariables false
open Go.RowKit

theorem good_true {n : Nat} {ll : List (List Int)} (h : (!ll.any (goodBad n)) = true) : ∀ l ∈ ll, l.length ≤ 30 ∧ checkS l = 0 ∧ l.length = n := by
  intro l hl
  have h1 : ll.any (goodBad n) = false := by simpa using h
  have h2 : ¬ goodBad n l = true := fun e => by
    rw [List.any_eq_true.2 ⟨l, hl, e⟩] at h1
    cases h1
  simp [goodBad] at h2
  omega
theorem pair_true {a b : List Int} (h : (![a, b].any (goodBad (nthL [a, b] 0).length)) = true) : Pair a b := by
  have h1 := good_true h
  have ha := h1 a (by simp)
  have hb := h1 b (by simp)
  exact ⟨checkS_good.1 ha.2.1, checkS_good.1 hb.2.1, by rw [hb.2.2, ha.2.2]⟩
theorem triple_true {a b c : List Int} (h : (![a, b, c].any (goodBad (nthL [a, b, c] 0).length)) = true) : Pair a b ∧ Pair b c := by
  have h1 := good_true h
  have ha := h1 a (by simp)
  have hb := h1 b (by simp)
  have hc := h1 c (by simp)
  exact ⟨⟨checkS_good.1 ha.2.1, checkS_good.1 hb.2.1, by rw [hb.2.2, ha.2.2]⟩, ⟨checkS_good.1 hb.2.1, checkS_good.1 hc.2.1, by rw [hc.2.2, hb.2.2]⟩⟩
theorem meetR_pair {a b : List Int} (h : Pair a b) : meetR a b = (meetS a b, 0) := by simp [meetR, h.both]
theorem joinR_pair {a b : List Int} (h : Pair a b) : joinR a b = (joinS a b, 0) := by simp [joinR, h.both]
theorem finerR_pair {a b : List Int} (h : Pair a b) : finerR a b = (underS a b, 0) := by simp [finerR, h.both]
theorem countR_good {a : List Int} (h : Good a) : countR a = (numS a, 0) := by simp [countR, checkS_good.2 h]
theorem Pair.meets {a b c : List Int} (h : Pair a b) (h' : Pair b c) : Pair (meetS a b) c := ⟨h.meet.right, h'.right, by rw [h'.len, h.len, h.meet.len]⟩
theorem Pair.joins {a b c : List Int} (h : Pair a b) (h' : Pair b c) : Pair (joinS a b) c := ⟨h.join.right, h'.right, by rw [h'.len, h.len, h.join.len]⟩
theorem Pair.meets' {a b c : List Int} (h : Pair a b) (h' : Pair b c) : Pair a (meetS b c) := ⟨h.left, h'.meet.right, by rw [h'.meet.len, h.len]⟩
theorem Pair.joins' {a b c : List Int} (h : Pair a b) (h' : Pair b c) : Pair a (joinS b c) := ⟨h.left, h'.join.right, by rw [h'.join.len, h.len]⟩

theorem meetPair_calls {S S' : Nat → Prop} {w : World} {va vb : Value} {a b : List Int} (hp : Pair a b) (ha : Ints S w va a) (hb : Ints S' w vb b) :
    Calls Try.prog 16 #[va, vb] w (Post w (RetL w.heap.size (meetS a b, 0))) := by
  have := meetApi_calls ha hb
  rw [meetR_pair hp] at this
  exact this
theorem joinPair_calls {S S' : Nat → Prop} {w : World} {va vb : Value} {a b : List Int} (hp : Pair a b) (ha : Ints S w va a) (hb : Ints S' w vb b) :
    Calls Try.prog 15 #[va, vb] w (Post w (RetL w.heap.size (joinS a b, 0))) := by
  have := join_calls ha hb
  rw [joinR_pair hp] at this
  exact this
theorem finerPair_calls {S S' : Nat → Prop} {w : World} {va vb : Value} {a b : List Int} (hp : Pair a b) (ha : Ints S w va a) (hb : Ints S' w vb b) :
    Calls Try.prog 32 #[va, vb] w (Post w fun _ r => r = .tuple #[.bool (underS a b), .int .i64 0]) := by
  have := finer_calls ha hb
  rw [finerR_pair hp] at this
  exact this
theorem countGood_calls {S : Nat → Prop} {w : World} {va : Value} {a : List Int} (hp : Good a) (ha : Ints S w va a) :
    Calls Try.prog 20 #[va] w (Post w fun _ r => r = .tuple #[.int .i64 (numS a), .int .i64 0]) := by
  have := count_calls ha
  rw [countR_good hp] at this
  exact this

theorem numS_small {a : List Int} (h : Good a) : 0 ≤ numS a ∧ numS a ≤ 65536 := by
  have := numS_le a h.2 a.length (Nat.le_refl _)
  rw [List.take_length] at this
  exact ⟨numS_nonneg a, by have := h.1; omega⟩

set_option maxRecDepth 100000 in
theorem two_calls {S S' : Nat → Prop} {w : World} {va vb : Value} {a b : List Int} (hp : Pair a b) (ha : Ints S w va a) (hb : Ints S' w vb b) :
    Calls Try.prog 13 #[va, vb] w (Post w fun w' r => ∃ vm vj, r = .tuple #[vm, vj, .bool true] ∧ Ints (fun _ => True) w' vm (meetS a b) ∧ Ints (fun _ => True) w' vj (joinS a b)) := by
  go_enter Try.func13, Try.ntmps13
  go_wp2_with fail
  refine (meetPair_calls hp ha hb).mono ?_
  rintro _ w1 ⟨_, rfl, hb1, vm, rfl, im⟩
  go_wp2_with fail
  refine (joinPair_calls hp (ha.ext hb1) (hb.ext hb1)).mono ?_
  rintro _ w2 ⟨_, rfl, hb2, vj, rfl, ij⟩
  have ex1 := ext_trans hb1 hb2
  go_wp2_with fail
  go_ret3
  exact .mk ex1 ⟨_, _, rfl, (im.ext hb2).all, ij.all⟩

set_option maxRecDepth 100000 in
set_option maxHeartbeats 4000000 in
theorem walkPartitionLattice {Sa Sb : Nat → Prop} {w : World} {va vb : Value} {a b : List Int} (ha : Ints Sa w va a) (hb : Ints Sb w vb b) :
    Calls Try.prog 3 #[va, vb] w (Post w fun _ r => r = .bool true) := by
  have ka0 := ha
  obtain ⟨aa, capa, rfl, _⟩ := ka0
  have kb0 := hb
  obtain ⟨ab, capb, rfl, _⟩ := kb0
  go_enter Try.func3, Try.ntmps3
  go_wp2_with fail
  have L := lit_lists w _ rfl [.slice aa a.length capa, .slice ab b.length capb] [a, b] 22 ⟨ha.all, hb.all, trivial⟩ (by simp)
  have ex1 := ext_alloc w (.cells #[.slice aa a.length capa, .slice ab b.length capb] 22)
  refine (good_calls L (by simp)).mono ?_
  rintro _ w1 ⟨_, rfl, hb1, rfl⟩
  have ex2 := ext_trans ex1 hb1
  clear L
  cases fb : (![a, b].any (goodBad (nthL [a, b] 0).length)) with
  | false =>
    have Hfb := Lib.hid fb
    clear fb
    go_wp2_with fail
    refine (awake_calls _).mono ?_
    rintro _ w2 ⟨_, rfl, hb2, rfl⟩
    have ex3 := ext_trans ex2 hb2
    go_wp2_with fail
    go_ret
    exact .mk ex3 rfl
  | true =>
    have Hfb := Lib.hid fb
    clear fb
    have hp := pair_true Hfb.out
    have hpb := hp.symm
    have hpa := Pair.refl hp.left
    go_wp2_with fail
    refine (two_calls hp (ha.ext ex2) (hb.ext ex2)).mono ?_
    rintro _ w2 ⟨_, rfl, hb2, m, j, rfl, im, ij⟩
    have ex3 := ext_trans ex2 hb2
    go_wp2_with fail
    refine (two_calls hpb (hb.ext ex3) (ha.ext ex3)).mono ?_
    rintro _ w3 ⟨_, rfl, hb3, n, k, rfl, iN, ik⟩
    have ex4 := ext_trans ex3 hb3
    have ex5 := ext_trans hb2 hb3
    go_wp2_with fail
    refine (two_calls hpa (ha.ext ex4) (ha.ext ex4)).mono ?_
    rintro _ w4 ⟨_, rfl, hb4, x, y, rfl, ix, iy⟩
    have ex6 := ext_trans ex4 hb4
    have ex7 := ext_trans ex5 hb4
    have ex8 := ext_trans hb3 hb4
    go_wp2_with fail
    refine (equal_calls (im.ext ex8) (iN.ext hb4)).mono ?_
    rintro _ w5 ⟨_, rfl, hb5, rfl⟩
    have ex9 := ext_trans ex6 hb5
    have ex10 := ext_trans ex7 hb5
    have ex11 := ext_trans ex8 hb5
    have ex12 := ext_trans hb4 hb5
    rw [decide_eq_true (meet_comm hp)]
    go_wp2_with fail
    refine (equal_calls (ij.ext ex11) (ik.ext ex12)).mono ?_
    rintro _ w6 ⟨_, rfl, hb6, rfl⟩
    have ex13 := ext_trans ex9 hb6
    have ex14 := ext_trans ex10 hb6
    have ex15 := ext_trans ex11 hb6
    have ex16 := ext_trans ex12 hb6
    have ex17 := ext_trans hb5 hb6
    rw [decide_eq_true (join_comm hp)]
    go_wp2_with fail
    refine (equal_calls (ix.ext ex17) (ha.ext ex13)).mono ?_
    rintro _ w7 ⟨_, rfl, hb7, rfl⟩
    have ex18 := ext_trans ex13 hb7
    have ex19 := ext_trans ex14 hb7
    have ex20 := ext_trans ex15 hb7
    have ex21 := ext_trans ex16 hb7
    have ex22 := ext_trans ex17 hb7
    have ex23 := ext_trans hb6 hb7
    rw [decide_eq_true (meet_of_under hpa (under_refl a))]
    go_wp2_with fail
    refine (equal_calls (iy.ext ex22) (ha.ext ex18)).mono ?_
    rintro _ w8 ⟨_, rfl, hb8, rfl⟩
    have ex24 := ext_trans ex18 hb8
    have ex25 := ext_trans ex19 hb8
    have ex26 := ext_trans ex20 hb8
    have ex27 := ext_trans ex21 hb8
    have ex28 := ext_trans ex22 hb8
    have ex29 := ext_trans ex23 hb8
    have ex30 := ext_trans hb7 hb8
    rw [decide_eq_true (join_of_under hpa (under_refl a))]
    go_wp2_with fail
    refine (joinPair_calls hp.meet (ha.ext ex24) (im.ext ex26)).mono ?_
    rintro _ w9 ⟨_, rfl, hb9, up, rfl, iu⟩
    have ex31 := ext_trans ex24 hb9
    have ex32 := ext_trans ex25 hb9
    have ex33 := ext_trans ex26 hb9
    have ex34 := ext_trans ex27 hb9
    have ex35 := ext_trans ex28 hb9
    have ex36 := ext_trans ex29 hb9
    have ex37 := ext_trans ex30 hb9
    have ex38 := ext_trans hb8 hb9
    go_wp2_with fail
    refine (meetPair_calls hp.join (ha.ext ex31) (ij.ext ex33)).mono ?_
    rintro _ w10 ⟨_, rfl, hb10, dn, rfl, id⟩
    have ex39 := ext_trans ex31 hb10
    have ex40 := ext_trans ex32 hb10
    have ex41 := ext_trans ex33 hb10
    have ex42 := ext_trans ex34 hb10
    have ex43 := ext_trans ex35 hb10
    have ex44 := ext_trans ex36 hb10
    have ex45 := ext_trans ex37 hb10
    have ex46 := ext_trans ex38 hb10
    have ex47 := ext_trans hb9 hb10
    go_wp2_with fail
    refine (equal_calls (iu.ext hb10) (ha.ext ex39)).mono ?_
    rintro _ w11 ⟨_, rfl, hb11, rfl⟩
    have ex48 := ext_trans ex39 hb11
    have ex49 := ext_trans ex40 hb11
    have ex50 := ext_trans ex41 hb11
    have ex51 := ext_trans ex42 hb11
    have ex52 := ext_trans ex43 hb11
    have ex53 := ext_trans ex44 hb11
    have ex54 := ext_trans ex45 hb11
    have ex55 := ext_trans ex46 hb11
    have ex56 := ext_trans ex47 hb11
    have ex57 := ext_trans hb10 hb11
    rw [decide_eq_true (join_meet hp)]
    go_wp2_with fail
    refine (equal_calls (id.ext hb11) (ha.ext ex48)).mono ?_
    rintro _ w12 ⟨_, rfl, hb12, rfl⟩
    have ex58 := ext_trans ex48 hb12
    have ex59 := ext_trans ex49 hb12
    have ex60 := ext_trans ex50 hb12
    have ex61 := ext_trans ex51 hb12
    have ex62 := ext_trans ex52 hb12
    have ex63 := ext_trans ex53 hb12
    have ex64 := ext_trans ex54 hb12
    have ex65 := ext_trans ex55 hb12
    have ex66 := ext_trans ex56 hb12
    have ex67 := ext_trans ex57 hb12
    have ex68 := ext_trans hb11 hb12
    rw [decide_eq_true (meet_join hp)]
    go_wp2_with fail
    refine (awake_calls _).mono ?_
    rintro _ w13 ⟨_, rfl, hb13, rfl⟩
    have ex69 := ext_trans ex58 hb13
    have ex70 := ext_trans ex59 hb13
    have ex71 := ext_trans ex60 hb13
    have ex72 := ext_trans ex61 hb13
    have ex73 := ext_trans ex62 hb13
    have ex74 := ext_trans ex63 hb13
    have ex75 := ext_trans ex64 hb13
    have ex76 := ext_trans ex65 hb13
    have ex77 := ext_trans ex66 hb13
    have ex78 := ext_trans ex67 hb13
    have ex79 := ext_trans ex68 hb13
    have ex80 := ext_trans hb12 hb13
    go_wp2_with fail
    go_ret
    exact .mk ex69 rfl

set_option maxRecDepth 100000 in
set_option maxHeartbeats 4000000 in
theorem walkPartitionGroups {Sa Sb Sc : Nat → Prop} {w : World} {va vb vc : Value} {a b c : List Int} (ha : Ints Sa w va a) (hb : Ints Sb w vb b) (hc : Ints Sc w vc c) :
    Calls Try.prog 4 #[va, vb, vc] w (Post w fun _ r => r = .bool true) := by
  have ka0 := ha
  obtain ⟨aa, capa, rfl, _⟩ := ka0
  have kb0 := hb
  obtain ⟨ab, capb, rfl, _⟩ := kb0
  have kc0 := hc
  obtain ⟨ac, capc, rfl, _⟩ := kc0
  go_enter Try.func4, Try.ntmps4
  go_wp2_with fail
  have L := lit_lists w _ rfl [.slice aa a.length capa, .slice ab b.length capb, .slice ac c.length capc] [a, b, c] 22 ⟨ha.all, hb.all, hc.all, trivial⟩ (by simp)
  have ex1 := ext_alloc w (.cells #[.slice aa a.length capa, .slice ab b.length capb, .slice ac c.length capc] 22)
  refine (good_calls L (by simp)).mono ?_
  rintro _ w1 ⟨_, rfl, hb1, rfl⟩
  have ex2 := ext_trans ex1 hb1
  clear L
  cases fb : (![a, b, c].any (goodBad (nthL [a, b, c] 0).length)) with
  | false =>
    have Hfb := Lib.hid fb
    clear fb
    go_wp2_with fail
    refine (awake_calls _).mono ?_
    rintro _ w2 ⟨_, rfl, hb2, rfl⟩
    have ex3 := ext_trans ex2 hb2
    go_wp2_with fail
    go_ret
    exact .mk ex3 rfl
  | true =>
    have Hfb := Lib.hid fb
    clear fb
    have hab := (triple_true Hfb.out).1
    have hbc := (triple_true Hfb.out).2
    go_wp2_with fail
    refine (two_calls hab (ha.ext ex2) (hb.ext ex2)).mono ?_
    rintro _ w2 ⟨_, rfl, hb2, ab, cd, rfl, iab, icd⟩
    have ex3 := ext_trans ex2 hb2
    go_wp2_with fail
    refine (two_calls hbc (hb.ext ex3) (hc.ext ex3)).mono ?_
    rintro _ w3 ⟨_, rfl, hb3, bc, de, rfl, ibc, ide⟩
    have ex4 := ext_trans ex3 hb3
    have ex5 := ext_trans hb2 hb3
    go_wp2_with fail
    refine (meetPair_calls (hab.meets hbc) (iab.ext hb3) (hc.ext ex4)).mono ?_
    rintro _ w4 ⟨_, rfl, hb4, m, rfl, im⟩
    have ex6 := ext_trans ex4 hb4
    have ex7 := ext_trans ex5 hb4
    have ex8 := ext_trans hb3 hb4
    go_wp2_with fail
    refine (meetPair_calls (hab.meets' hbc) (ha.ext ex6) (ibc.ext hb4)).mono ?_
    rintro _ w5 ⟨_, rfl, hb5, n, rfl, iN⟩
    have ex9 := ext_trans ex6 hb5
    have ex10 := ext_trans ex7 hb5
    have ex11 := ext_trans ex8 hb5
    have ex12 := ext_trans hb4 hb5
    go_wp2_with fail
    refine (joinPair_calls (hab.joins hbc) (icd.ext ex11) (hc.ext ex9)).mono ?_
    rintro _ w6 ⟨_, rfl, hb6, j, rfl, ij⟩
    have ex13 := ext_trans ex9 hb6
    have ex14 := ext_trans ex10 hb6
    have ex15 := ext_trans ex11 hb6
    have ex16 := ext_trans ex12 hb6
    have ex17 := ext_trans hb5 hb6
    go_wp2_with fail
    refine (joinPair_calls (hab.joins' hbc) (ha.ext ex13) (ide.ext ex16)).mono ?_
    rintro _ w7 ⟨_, rfl, hb7, k, rfl, ik⟩
    have ex18 := ext_trans ex13 hb7
    have ex19 := ext_trans ex14 hb7
    have ex20 := ext_trans ex15 hb7
    have ex21 := ext_trans ex16 hb7
    have ex22 := ext_trans ex17 hb7
    have ex23 := ext_trans hb6 hb7
    go_wp2_with fail
    refine (equal_calls (im.ext ex22) (iN.ext ex23)).mono ?_
    rintro _ w8 ⟨_, rfl, hb8, rfl⟩
    have ex24 := ext_trans ex18 hb8
    have ex25 := ext_trans ex19 hb8
    have ex26 := ext_trans ex20 hb8
    have ex27 := ext_trans ex21 hb8
    have ex28 := ext_trans ex22 hb8
    have ex29 := ext_trans ex23 hb8
    have ex30 := ext_trans hb7 hb8
    rw [decide_eq_true (meet_assoc hab hbc)]
    go_wp2_with fail
    refine (equal_calls (ij.ext ex30) (ik.ext hb8)).mono ?_
    rintro _ w9 ⟨_, rfl, hb9, rfl⟩
    have ex31 := ext_trans ex24 hb9
    have ex32 := ext_trans ex25 hb9
    have ex33 := ext_trans ex26 hb9
    have ex34 := ext_trans ex27 hb9
    have ex35 := ext_trans ex28 hb9
    have ex36 := ext_trans ex29 hb9
    have ex37 := ext_trans ex30 hb9
    have ex38 := ext_trans hb8 hb9
    rw [decide_eq_true (join_assoc hab hbc)]
    go_wp2_with fail
    refine (awake_calls _).mono ?_
    rintro _ w10 ⟨_, rfl, hb10, rfl⟩
    have ex39 := ext_trans ex31 hb10
    have ex40 := ext_trans ex32 hb10
    have ex41 := ext_trans ex33 hb10
    have ex42 := ext_trans ex34 hb10
    have ex43 := ext_trans ex35 hb10
    have ex44 := ext_trans ex36 hb10
    have ex45 := ext_trans ex37 hb10
    have ex46 := ext_trans ex38 hb10
    have ex47 := ext_trans hb9 hb10
    go_wp2_with fail
    go_ret
    exact .mk ex39 rfl

set_option maxRecDepth 100000 in
set_option maxHeartbeats 4000000 in
theorem walkPartitionOrders {Sa Sb : Nat → Prop} {w : World} {va vb : Value} {a b : List Int} (ha : Ints Sa w va a) (hb : Ints Sb w vb b) :
    Calls Try.prog 9 #[va, vb] w (Post w fun _ r => r = .bool true) := by
  have ka0 := ha
  obtain ⟨aa, capa, rfl, _⟩ := ka0
  have kb0 := hb
  obtain ⟨ab, capb, rfl, _⟩ := kb0
  go_enter Try.func9, Try.ntmps9
  go_wp2_with fail
  have L := lit_lists w _ rfl [.slice aa a.length capa, .slice ab b.length capb] [a, b] 22 ⟨ha.all, hb.all, trivial⟩ (by simp)
  have ex1 := ext_alloc w (.cells #[.slice aa a.length capa, .slice ab b.length capb] 22)
  refine (good_calls L (by simp)).mono ?_
  rintro _ w1 ⟨_, rfl, hb1, rfl⟩
  have ex2 := ext_trans ex1 hb1
  clear L
  cases fb : (![a, b].any (goodBad (nthL [a, b] 0).length)) with
  | false =>
    have Hfb := Lib.hid fb
    clear fb
    go_wp2_with fail
    refine (awake_calls _).mono ?_
    rintro _ w2 ⟨_, rfl, hb2, rfl⟩
    have ex3 := ext_trans ex2 hb2
    go_wp2_with fail
    go_ret
    exact .mk ex3 rfl
  | true =>
    have Hfb := Lib.hid fb
    clear fb
    have hp := pair_true Hfb.out
    have hma : Pair (meetS a b) a := hp.meet.symm
    have hbj : Pair b (joinS a b) := ⟨hp.right, hp.join.right, by rw [hp.join.len, hp.len]⟩
    go_wp2_with fail
    refine (two_calls hp (ha.ext ex2) (hb.ext ex2)).mono ?_
    rintro _ w2 ⟨_, rfl, hb2, m, j, rfl, im, ij⟩
    have ex3 := ext_trans ex2 hb2
    go_wp2_with fail
    refine (finerPair_calls hp (ha.ext ex3) (hb.ext ex3)).mono ?_
    rintro _ w3 ⟨_, rfl, hb3, rfl⟩
    have ex4 := ext_trans ex3 hb3
    have ex5 := ext_trans hb2 hb3
    go_wp2_with fail
    refine (finerPair_calls hma (im.ext hb3) (ha.ext ex4)).mono ?_
    rintro _ w4 ⟨_, rfl, hb4, rfl⟩
    have ex6 := ext_trans ex4 hb4
    have ex7 := ext_trans ex5 hb4
    have ex8 := ext_trans hb3 hb4
    rw [underS_true (under_meet hp)]
    go_wp2_with fail
    refine (finerPair_calls hbj (hb.ext ex6) (ij.ext ex8)).mono ?_
    rintro _ w5 ⟨_, rfl, hb5, rfl⟩
    have ex9 := ext_trans ex6 hb5
    have ex10 := ext_trans ex7 hb5
    have ex11 := ext_trans ex8 hb5
    have ex12 := ext_trans hb4 hb5
    rw [underS_true (under_join' hp)]
    have eu1 : underS a b = decide (meetS a b = a) := by unfold underS; exact decide_eq_decide.2 ⟨meet_of_under hp, under_of_meet hp⟩
    have eu2 : underS a b = decide (joinS a b = b) := by unfold underS; exact decide_eq_decide.2 ⟨join_of_under hp, under_of_join hp⟩
    generalize underS a b = u at *
    have E1 := Lib.hid eu1
    have E2 := Lib.hid eu2
    clear eu1 eu2
    go_wp2_with fail
    refine (equal_calls (im.ext ex11) (ha.ext ex9)).mono ?_
    rintro _ w6 ⟨_, rfl, hb6, rfl⟩
    have ex13 := ext_trans ex9 hb6
    have ex14 := ext_trans ex10 hb6
    have ex15 := ext_trans ex11 hb6
    have ex16 := ext_trans ex12 hb6
    have ex17 := ext_trans hb5 hb6
    rw [← E1.out]
    have eu : (u != u) = false := by simp
    go_wp2_with fail
    refine (equal_calls (ij.ext ex15) (hb.ext ex13)).mono ?_
    rintro _ w7 ⟨_, rfl, hb7, rfl⟩
    have ex18 := ext_trans ex13 hb7
    have ex19 := ext_trans ex14 hb7
    have ex20 := ext_trans ex15 hb7
    have ex21 := ext_trans ex16 hb7
    have ex22 := ext_trans ex17 hb7
    have ex23 := ext_trans hb6 hb7
    rw [← E2.out]
    have s1 := numS_small hp.left
    have s2 := numS_small hp.meet.right
    have s3 := numS_small hp.join.right
    have o1 := numS_under hma (under_meet hp)
    have o2 := numS_under hp.join (under_join hp)
    go_wp2_with fail
    refine (countGood_calls hp.left (ha.ext ex18)).mono ?_
    rintro _ w8 ⟨_, rfl, hb8, rfl⟩
    have ex24 := ext_trans ex18 hb8
    have ex25 := ext_trans ex19 hb8
    have ex26 := ext_trans ex20 hb8
    have ex27 := ext_trans ex21 hb8
    have ex28 := ext_trans ex22 hb8
    have ex29 := ext_trans ex23 hb8
    have ex30 := ext_trans hb7 hb8
    go_wp2_with fail
    refine (countGood_calls hp.meet.right (im.ext ex26)).mono ?_
    rintro _ w9 ⟨_, rfl, hb9, rfl⟩
    have ex31 := ext_trans ex24 hb9
    have ex32 := ext_trans ex25 hb9
    have ex33 := ext_trans ex26 hb9
    have ex34 := ext_trans ex27 hb9
    have ex35 := ext_trans ex28 hb9
    have ex36 := ext_trans ex29 hb9
    have ex37 := ext_trans ex30 hb9
    have ex38 := ext_trans hb8 hb9
    go_wp2_with fail
    refine (countGood_calls hp.join.right (ij.ext ex33)).mono ?_
    rintro _ w10 ⟨_, rfl, hb10, rfl⟩
    have ex39 := ext_trans ex31 hb10
    have ex40 := ext_trans ex32 hb10
    have ex41 := ext_trans ex33 hb10
    have ex42 := ext_trans ex34 hb10
    have ex43 := ext_trans ex35 hb10
    have ex44 := ext_trans ex36 hb10
    have ex45 := ext_trans ex37 hb10
    have ex46 := ext_trans ex38 hb10
    have ex47 := ext_trans hb9 hb10
    go_wp2_with fail
    refine (awake_calls _).mono ?_
    rintro _ w11 ⟨_, rfl, hb11, rfl⟩
    have ex48 := ext_trans ex39 hb11
    have ex49 := ext_trans ex40 hb11
    have ex50 := ext_trans ex41 hb11
    have ex51 := ext_trans ex42 hb11
    have ex52 := ext_trans ex43 hb11
    have ex53 := ext_trans ex44 hb11
    have ex54 := ext_trans ex45 hb11
    have ex55 := ext_trans ex46 hb11
    have ex56 := ext_trans ex47 hb11
    have ex57 := ext_trans hb10 hb11
    go_wp2_with fail
    go_ret
    exact .mk ex48 rfl

end Go.Proofs.Ytnmbiibchajehaa
