/- The law of products of graphs: its walk. -/
import Derived.Test.YtmlgbaogkbfklaaDoorGrW
namespace Go.Proofs.YtmlgbaogkbfklaaDoor
set_option linter.unusedVariables false
open Go.RowKit
attribute [local go_sem ↓] Go.wp_at_zero Go.wp_at_succ

theorem gs2 (na nb : Int) (fa fb : Nat → Int) (P : Nat → Prop) : (∀ i, i < [(na, fa), (nb, fb)].length → P i) ↔ P 0 ∧ P 1 := by
  constructor
  · intro h; exact ⟨h 0 (by simp), h 1 (by simp)⟩
  · rintro ⟨h0, h1⟩ i hi
    have : i = 0 ∨ i = 1 := by simp at hi; omega
    rcases this with rfl | rfl <;> assumption
theorem ker_lt {n : Nat} (h : Nat → Nat) : kerTo n h n < 2 ^ n := lt_of_bits fun i hi => ((testBit_ker n h i n).1 hi).1
set_option maxRecDepth 100000 in
set_option maxHeartbeats 8000000 in
theorem move_bad1 {w : World} (TB : Tab w) {na nb : Int} {fa fb : Nat → Int} (v : Value) (h : ¬ ∀ i, i < [(na, fa), (nb, fb)].length → okG [(na, fa), (nb, fb)] i) :
    Calls Tryd.prog 4 #[gV na fa, gV nb fb, v] w (Post w fun _ r => r = .bool true) := by
  unfold gV
  have Ra : Row (w.alloc (.cells #[.int .i64 na, .int .i64 (fa 0), .int .i64 (fa 1), .int .i64 (fa 2), .int .i64 (fa 3), .int .i64 (fa 4)] 24)) (w).heap.size 24 (gC na fa) := row_new _ _ 24
  try simp only [World.size_alloc] at Ra
  replace Ra := Ra.alloc (.cells #[.int .i64 nb, .int .i64 (fb 0), .int .i64 (fb 1), .int .i64 (fb 2), .int .i64 (fb 3), .int .i64 (fb 4)] 24)
  have Rb : Row ((w.alloc (.cells #[.int .i64 na, .int .i64 (fa 0), .int .i64 (fa 1), .int .i64 (fa 2), .int .i64 (fa 3), .int .i64 (fa 4)] 24)).alloc (.cells #[.int .i64 nb, .int .i64 (fb 0), .int .i64 (fb 1), .int .i64 (fb 2), .int .i64 (fb 3), .int .i64 (fb 4)] 24)) ((w.alloc (.cells #[.int .i64 na, .int .i64 (fa 0), .int .i64 (fa 1), .int .i64 (fa 2), .int .i64 (fa 3), .int .i64 (fa 4)] 24))).heap.size 24 (gC nb fb) := row_new _ _ 24
  try simp only [World.size_alloc] at Rb
  have ex0 := ext_alloc' (ext_alloc w (.cells #[.int .i64 na, .int .i64 (fa 0), .int .i64 (fa 1), .int .i64 (fa 2), .int .i64 (fa 3), .int .i64 (fa 4)] 24)) (.cells #[.int .i64 nb, .int .i64 (fb 0), .int .i64 (fb 1), .int .i64 (fb 2), .int .i64 (fb 3), .int .i64 (fb 4)] 24)
  have KA := Lib.hid (awake_calls (TB.ext ex0))
  go_enter Tryd.func4, Tryd.ntmps4
  go_wp2_with fail
  refine (KA.out).mono ?_
  rintro _ w1 ⟨_, rfl, hb, rfl⟩
  have ex1 := ext_trans ex0 hb
  replace Ra := Ra.ext hb
  replace Rb := Rb.ext hb
  clear hb
  clear KA
  have RS : Row (w1.alloc (.cells #[.int .i64 na, .int .i64 (fa 0), .int .i64 (fa 1), .int .i64 (fa 2), .int .i64 (fa 3), .int .i64 (fa 4), .int .i64 nb, .int .i64 (fb 0), .int .i64 (fb 1), .int .i64 (fb 2), .int .i64 (fb 3), .int .i64 (fb 4)] 24)) w1.heap.size 24 (gsC [(na, fa), (nb, fb)]) := row_new w1 _ 24
  have KG := Lib.hid (caseGraphs_calls RS (by simp) (by simp))
  have ex1g := ext_alloc' ex1 (.cells #[.int .i64 na, .int .i64 (fa 0), .int .i64 (fa 1), .int .i64 (fa 2), .int .i64 (fa 3), .int .i64 (fa 4), .int .i64 nb, .int .i64 (fb 0), .int .i64 (fb 1), .int .i64 (fb 2), .int .i64 (fb 3), .int .i64 (fb 4)] 24)
  obtain ⟨sa0, sa1, sa2, sa3, sa4, sa5⟩ := Ra.six
  obtain ⟨sb0, sb1, sb2, sb3, sb4, sb5⟩ := Rb.six
  clear RS
  go_wp2_with fail
  clear sa0 sa1 sa2 sa3 sa4 sa5
  clear sb0 sb1 sb2 sb3 sb4 sb5
  replace Ra := Ra.alloc (.cells #[.int .i64 na, .int .i64 (fa 0), .int .i64 (fa 1), .int .i64 (fa 2), .int .i64 (fa 3), .int .i64 (fa 4), .int .i64 nb, .int .i64 (fb 0), .int .i64 (fb 1), .int .i64 (fb 2), .int .i64 (fb 3), .int .i64 (fb 4)] 24)
  replace Rb := Rb.alloc (.cells #[.int .i64 na, .int .i64 (fa 0), .int .i64 (fa 1), .int .i64 (fa 2), .int .i64 (fa 3), .int .i64 (fa 4), .int .i64 nb, .int .i64 (fb 0), .int .i64 (fb 1), .int .i64 (fb 2), .int .i64 (fb 3), .int .i64 (fb 4)] 24)
  refine KG.out.mono ?_
  rintro _ w2 ⟨_, rfl, hb, b, rfl, hiff⟩
  have ex2 := ext_trans ex1g hb
  replace Ra := Ra.ext hb
  replace Rb := Rb.ext hb
  clear hb KG
  have hbf : b = false := by
    cases b with
    | false => rfl
    | true => exact absurd (hiff.1 rfl) h
  subst hbf
  clear h hiff
  go_wp2
  go_ret
  exact .mk ex2 rfl
set_option maxRecDepth 100000 in
set_option maxHeartbeats 8000000 in
theorem move_bad2 {S : Nat → Prop} {w : World} (TB : Tab w) {n : Nat} {a b : Nat → Nat} (HA : GOK n a) (HB : GOK n b) {v : Value} {l : List Int} (hv : Ints S w v l) (hn : l.length ≠ n) :
    Calls Tryd.prog 4 #[hV n a, hV n b, v] w (Post w fun _ r => r = .bool true) := by
  obtain ⟨pa, pc, rfl, _⟩ := hv.form
  have DL := Lib.hid (show ((l.length : Int) != (n : Int)) = true by simp; omega)
  clear hn hv
  have OKG : Hid (∀ i, i < [((n : Int), fun p => (a p : Int)), ((n : Int), fun p => (b p : Int))].length → okG [((n : Int), fun p => (a p : Int)), ((n : Int), fun p => (b p : Int))] i) :=
    Lib.hid ((gs2 _ _ _ _ _).2 ⟨⟨⟨n, a, rfl, HA, fun _ _ => rfl⟩, rfl⟩, ⟨⟨n, b, rfl, HB, fun _ _ => rfl⟩, rfl⟩⟩)
  unfold hV
  unfold gV
  have Ra : Row (w.alloc (.cells #[.int .i64 n, .int .i64 (a 0), .int .i64 (a 1), .int .i64 (a 2), .int .i64 (a 3), .int .i64 (a 4)] 24)) (w).heap.size 24 (gC n fun p => (a p : Int)) := row_new _ _ 24
  try simp only [World.size_alloc] at Ra
  replace Ra := Ra.alloc (.cells #[.int .i64 n, .int .i64 (b 0), .int .i64 (b 1), .int .i64 (b 2), .int .i64 (b 3), .int .i64 (b 4)] 24)
  have Rb : Row ((w.alloc (.cells #[.int .i64 n, .int .i64 (a 0), .int .i64 (a 1), .int .i64 (a 2), .int .i64 (a 3), .int .i64 (a 4)] 24)).alloc (.cells #[.int .i64 n, .int .i64 (b 0), .int .i64 (b 1), .int .i64 (b 2), .int .i64 (b 3), .int .i64 (b 4)] 24)) ((w.alloc (.cells #[.int .i64 n, .int .i64 (a 0), .int .i64 (a 1), .int .i64 (a 2), .int .i64 (a 3), .int .i64 (a 4)] 24))).heap.size 24 (gC n fun p => (b p : Int)) := row_new _ _ 24
  try simp only [World.size_alloc] at Rb
  have ex0 := ext_alloc' (ext_alloc w (.cells #[.int .i64 n, .int .i64 (a 0), .int .i64 (a 1), .int .i64 (a 2), .int .i64 (a 3), .int .i64 (a 4)] 24)) (.cells #[.int .i64 n, .int .i64 (b 0), .int .i64 (b 1), .int .i64 (b 2), .int .i64 (b 3), .int .i64 (b 4)] 24)
  have KA := Lib.hid (awake_calls (TB.ext ex0))
  go_enter Tryd.func4, Tryd.ntmps4
  go_wp2_with fail
  refine (KA.out).mono ?_
  rintro _ w1 ⟨_, rfl, hb, rfl⟩
  have ex1 := ext_trans ex0 hb
  replace Ra := Ra.ext hb
  replace Rb := Rb.ext hb
  clear hb
  clear KA
  have RS : Row (w1.alloc (.cells #[.int .i64 n, .int .i64 (a 0), .int .i64 (a 1), .int .i64 (a 2), .int .i64 (a 3), .int .i64 (a 4), .int .i64 n, .int .i64 (b 0), .int .i64 (b 1), .int .i64 (b 2), .int .i64 (b 3), .int .i64 (b 4)] 24)) w1.heap.size 24 (gsC [((n : Int), fun p => (a p : Int)), ((n : Int), fun p => (b p : Int))]) := row_new w1 _ 24
  have KG := Lib.hid (caseGraphs_calls RS (by simp) (by simp))
  have ex1g := ext_alloc' ex1 (.cells #[.int .i64 n, .int .i64 (a 0), .int .i64 (a 1), .int .i64 (a 2), .int .i64 (a 3), .int .i64 (a 4), .int .i64 n, .int .i64 (b 0), .int .i64 (b 1), .int .i64 (b 2), .int .i64 (b 3), .int .i64 (b 4)] 24)
  obtain ⟨sa0, sa1, sa2, sa3, sa4, sa5⟩ := Ra.six
  obtain ⟨sb0, sb1, sb2, sb3, sb4, sb5⟩ := Rb.six
  clear RS
  go_wp2_with fail
  clear sa0 sa1 sa2 sa3 sa4 sa5
  clear sb0 sb1 sb2 sb3 sb4 sb5
  replace Ra := Ra.alloc (.cells #[.int .i64 n, .int .i64 (a 0), .int .i64 (a 1), .int .i64 (a 2), .int .i64 (a 3), .int .i64 (a 4), .int .i64 n, .int .i64 (b 0), .int .i64 (b 1), .int .i64 (b 2), .int .i64 (b 3), .int .i64 (b 4)] 24)
  replace Rb := Rb.alloc (.cells #[.int .i64 n, .int .i64 (a 0), .int .i64 (a 1), .int .i64 (a 2), .int .i64 (a 3), .int .i64 (a 4), .int .i64 n, .int .i64 (b 0), .int .i64 (b 1), .int .i64 (b 2), .int .i64 (b 3), .int .i64 (b 4)] 24)
  refine KG.out.mono ?_
  rintro _ w2 ⟨_, rfl, hb, b, rfl, hiff⟩
  have ex2 := ext_trans ex1g hb
  replace Ra := Ra.ext hb
  replace Rb := Rb.ext hb
  clear hb KG
  have hbt := hiff.2 OKG.out
  subst hbt
  clear hiff OKG
  have dl := DL.out
  obtain ⟨sa0, sa1, sa2, sa3, sa4, sa5⟩ := Ra.six
  go_wp2
  go_ret
  exact .mk ex2 rfl
set_option maxRecDepth 100000 in
set_option maxHeartbeats 8000000 in
theorem move_bad3 {S : Nat → Prop} {w : World} (TB : Tab w) {n : Nat} {a b : Nat → Nat} (HA : GOK n a) (HB : GOK n b) {v : Value} {l : List Int} (hv : Ints S w v l) (hn : l.length = n) (hp : ¬ IsP l) :
    Calls Tryd.prog 4 #[hV n a, hV n b, v] w (Post w fun _ r => r = .bool true) := by
  obtain ⟨pa, pc, rfl, _⟩ := hv.form
  have DL := Lib.hid (show ((l.length : Int) != (n : Int)) = false by simp; omega)
  have KP := Lib.hid fun W (hW : Below w.heap.size w W) => refPerm_calls (hv.ext hW)
  clear hn hv
  have OKG : Hid (∀ i, i < [((n : Int), fun p => (a p : Int)), ((n : Int), fun p => (b p : Int))].length → okG [((n : Int), fun p => (a p : Int)), ((n : Int), fun p => (b p : Int))] i) :=
    Lib.hid ((gs2 _ _ _ _ _).2 ⟨⟨⟨n, a, rfl, HA, fun _ _ => rfl⟩, rfl⟩, ⟨⟨n, b, rfl, HB, fun _ _ => rfl⟩, rfl⟩⟩)
  unfold hV
  unfold gV
  have Ra : Row (w.alloc (.cells #[.int .i64 n, .int .i64 (a 0), .int .i64 (a 1), .int .i64 (a 2), .int .i64 (a 3), .int .i64 (a 4)] 24)) (w).heap.size 24 (gC n fun p => (a p : Int)) := row_new _ _ 24
  try simp only [World.size_alloc] at Ra
  replace Ra := Ra.alloc (.cells #[.int .i64 n, .int .i64 (b 0), .int .i64 (b 1), .int .i64 (b 2), .int .i64 (b 3), .int .i64 (b 4)] 24)
  have Rb : Row ((w.alloc (.cells #[.int .i64 n, .int .i64 (a 0), .int .i64 (a 1), .int .i64 (a 2), .int .i64 (a 3), .int .i64 (a 4)] 24)).alloc (.cells #[.int .i64 n, .int .i64 (b 0), .int .i64 (b 1), .int .i64 (b 2), .int .i64 (b 3), .int .i64 (b 4)] 24)) ((w.alloc (.cells #[.int .i64 n, .int .i64 (a 0), .int .i64 (a 1), .int .i64 (a 2), .int .i64 (a 3), .int .i64 (a 4)] 24))).heap.size 24 (gC n fun p => (b p : Int)) := row_new _ _ 24
  try simp only [World.size_alloc] at Rb
  have ex0 := ext_alloc' (ext_alloc w (.cells #[.int .i64 n, .int .i64 (a 0), .int .i64 (a 1), .int .i64 (a 2), .int .i64 (a 3), .int .i64 (a 4)] 24)) (.cells #[.int .i64 n, .int .i64 (b 0), .int .i64 (b 1), .int .i64 (b 2), .int .i64 (b 3), .int .i64 (b 4)] 24)
  have KA := Lib.hid (awake_calls (TB.ext ex0))
  go_enter Tryd.func4, Tryd.ntmps4
  go_wp2_with fail
  refine (KA.out).mono ?_
  rintro _ w1 ⟨_, rfl, hb, rfl⟩
  have ex1 := ext_trans ex0 hb
  replace Ra := Ra.ext hb
  replace Rb := Rb.ext hb
  clear hb
  clear KA
  have RS : Row (w1.alloc (.cells #[.int .i64 n, .int .i64 (a 0), .int .i64 (a 1), .int .i64 (a 2), .int .i64 (a 3), .int .i64 (a 4), .int .i64 n, .int .i64 (b 0), .int .i64 (b 1), .int .i64 (b 2), .int .i64 (b 3), .int .i64 (b 4)] 24)) w1.heap.size 24 (gsC [((n : Int), fun p => (a p : Int)), ((n : Int), fun p => (b p : Int))]) := row_new w1 _ 24
  have KG := Lib.hid (caseGraphs_calls RS (by simp) (by simp))
  have ex1g := ext_alloc' ex1 (.cells #[.int .i64 n, .int .i64 (a 0), .int .i64 (a 1), .int .i64 (a 2), .int .i64 (a 3), .int .i64 (a 4), .int .i64 n, .int .i64 (b 0), .int .i64 (b 1), .int .i64 (b 2), .int .i64 (b 3), .int .i64 (b 4)] 24)
  obtain ⟨sa0, sa1, sa2, sa3, sa4, sa5⟩ := Ra.six
  obtain ⟨sb0, sb1, sb2, sb3, sb4, sb5⟩ := Rb.six
  clear RS
  go_wp2_with fail
  clear sa0 sa1 sa2 sa3 sa4 sa5
  clear sb0 sb1 sb2 sb3 sb4 sb5
  replace Ra := Ra.alloc (.cells #[.int .i64 n, .int .i64 (a 0), .int .i64 (a 1), .int .i64 (a 2), .int .i64 (a 3), .int .i64 (a 4), .int .i64 n, .int .i64 (b 0), .int .i64 (b 1), .int .i64 (b 2), .int .i64 (b 3), .int .i64 (b 4)] 24)
  replace Rb := Rb.alloc (.cells #[.int .i64 n, .int .i64 (a 0), .int .i64 (a 1), .int .i64 (a 2), .int .i64 (a 3), .int .i64 (a 4), .int .i64 n, .int .i64 (b 0), .int .i64 (b 1), .int .i64 (b 2), .int .i64 (b 3), .int .i64 (b 4)] 24)
  refine KG.out.mono ?_
  rintro _ w2 ⟨_, rfl, hb, b, rfl, hiff⟩
  have ex2 := ext_trans ex1g hb
  replace Ra := Ra.ext hb
  replace Rb := Rb.ext hb
  clear hb KG
  have hbt := hiff.2 OKG.out
  subst hbt
  clear hiff OKG
  have dl := DL.out
  obtain ⟨sa0, sa1, sa2, sa3, sa4, sa5⟩ := Ra.six
  go_wp2_with fail
  refine (KP.out _ ex2).mono ?_
  rintro _ w3 ⟨x, rfl, hq, hx⟩
  have dx : (x != 0) = true := by
    have : x ≠ 0 := fun e => hp (hx.1 e)
    simp [this]
  clear sa0 sa1 sa2 sa3 sa4 sa5
  have ex3 := ext_trans ex2 hq.ext
  clear hx hp
  go_wp2
  go_ret
  exact .mk ex3 rfl
set_option maxRecDepth 100000 in
set_option maxHeartbeats 8000000 in
theorem move_ok {S : Nat → Prop} {w : World} (TB : Tab w) {n : Nat} {a b : Nat → Nat} (HA : GOK n a) (HB : GOK n b) {v : Value} {pl : List Nat} (hv : Ints S w v (permI pl)) (H : PermN pl) (hn : pl.length = n) :
    Calls Tryd.prog 4 #[hV n a, hV n b, v] w (Post w fun _ r => r = .bool true) := by
  obtain ⟨pa, pc, rfl, _⟩ := hv.form
  have Hsl := gok_silent HA.pos HA.le
  have Hab := gok_mul HA HB
  have Hba := gok_mul HB HA
  have Hsu := gok_or HA HB
  have Hbb := gok_mul HB HB
  have Hx := gok_mv H hn HA
  have Hy := gok_mv H hn HB
  have KC1 : Hid (∀ W, Below w.heap.size w W → Calls Tryd.prog 11 #[hV n a, hV n b] W (Post W fun _ r => r = .tuple #[hV n (mulG n a b), .int .i64 0])) := Lib.hid fun W hW => compose_calls (TB.ext hW) HA HB
  have KC2 : Hid (∀ W, Below w.heap.size w W → Calls Tryd.prog 11 #[hV n b, hV n a] W (Post W fun _ r => r = .tuple #[hV n (mulG n b a), .int .i64 0])) := Lib.hid fun W hW => compose_calls (TB.ext hW) HB HA
  have KC3 : Hid (∀ W, Below w.heap.size w W → Calls Tryd.prog 11 #[hV n (mulG n a b), hV n a] W (Post W fun _ r => r = .tuple #[hV n (mulG n (mulG n a b) a), .int .i64 0])) := Lib.hid fun W hW => compose_calls (TB.ext hW) Hab HA
  have KC4 : Hid (∀ W, Below w.heap.size w W → Calls Tryd.prog 11 #[hV n a, hV n (mulG n b a)] W (Post W fun _ r => r = .tuple #[hV n (mulG n a (mulG n b a)), .int .i64 0])) := Lib.hid fun W hW => compose_calls (TB.ext hW) HA Hba
  have KS : Hid (∀ W, Calls Tryd.prog 12 #[.int .i64 n] W (Post W fun _ r => r = .tuple #[hV n (cut n fun p => 2 ^ p), .int .i64 0])) := Lib.hid fun W => silent_calls W HA.pos HA.le
  have KC5 : Hid (∀ W, Below w.heap.size w W → Calls Tryd.prog 11 #[hV n (cut n fun p => 2 ^ p), hV n a] W (Post W fun _ r => r = .tuple #[hV n (mulG n (cut n fun p => 2 ^ p) a), .int .i64 0])) := Lib.hid fun W hW => compose_calls (TB.ext hW) Hsl HA
  have KU1 : Hid (∀ W, Calls Tryd.prog 8 #[hV n a, hV n b] W (Post W fun _ r => r = .tuple #[hV n (orG n a b), .int .i64 0])) := Lib.hid fun W => union_calls W HA HB
  have KC6 : Hid (∀ W, Below w.heap.size w W → Calls Tryd.prog 11 #[hV n (orG n a b), hV n b] W (Post W fun _ r => r = .tuple #[hV n (mulG n (orG n a b) b), .int .i64 0])) := Lib.hid fun W hW => compose_calls (TB.ext hW) Hsu HB
  have KC7 : Hid (∀ W, Below w.heap.size w W → Calls Tryd.prog 11 #[hV n b, hV n b] W (Post W fun _ r => r = .tuple #[hV n (mulG n b b), .int .i64 0])) := Lib.hid fun W hW => compose_calls (TB.ext hW) HB HB
  have KU2 : Hid (∀ W, Calls Tryd.prog 8 #[hV n (mulG n a b), hV n (mulG n b b)] W (Post W fun _ r => r = .tuple #[hV n (orG n (mulG n a b) (mulG n b b)), .int .i64 0])) := Lib.hid fun W => union_calls W Hab Hbb
  have KP1 : Hid (∀ W, Below w.heap.size w W → Calls Tryd.prog 13 #[hV n a, .slice pa (permI pl).length pc] W (Post W fun _ r => r = .tuple #[hV n (mvG n pl a), .int .i64 0])) := Lib.hid fun W hW => permute_calls HA H hn (hv.ext hW)
  have KP2 : Hid (∀ W, Below w.heap.size w W → Calls Tryd.prog 13 #[hV n b, .slice pa (permI pl).length pc] W (Post W fun _ r => r = .tuple #[hV n (mvG n pl b), .int .i64 0])) := Lib.hid fun W hW => permute_calls HB H hn (hv.ext hW)
  have KC8 : Hid (∀ W, Below w.heap.size w W → Calls Tryd.prog 11 #[hV n (mvG n pl a), hV n (mvG n pl b)] W (Post W fun _ r => r = .tuple #[hV n (mulG n (mvG n pl a) (mvG n pl b)), .int .i64 0])) := Lib.hid fun W hW => compose_calls (TB.ext hW) Hx Hy
  have KP3 : Hid (∀ W, Below w.heap.size w W → Calls Tryd.prog 13 #[hV n (mulG n a b), .slice pa (permI pl).length pc] W (Post W fun _ r => r = .tuple #[hV n (mvG n pl (mulG n a b)), .int .i64 0])) := Lib.hid fun W hW => permute_calls Hab H hn (hv.ext hW)
  have KI := Lib.hid fun W (hW : Below w.heap.size w W) => inverse_calls H (hv.ext hW)
  rw [invTo_eq] at KI
  have KP4 : Hid (∀ (W : World) (S' : Nat → Prop) (u : Value), Ints S' W u (permI (invP pl)) → Calls Tryd.prog 13 #[hV n (mvG n pl a), u] W (Post W fun _ r => r = .tuple #[hV n (mvG n (invP pl) (mvG n pl a)), .int .i64 0])) := Lib.hid fun W S' u hu => permute_calls Hx (invP_perm H) (by rw [invP_len]; exact hn) hu
  have KK1 := Lib.hid fun W => kernel_calls W HA
  have KK2 := Lib.hid fun W => kernel_calls W Hx
  have KT := Lib.hid fun W (hW : Below w.heap.size w W) => set_calls H (hv.ext hW) (s := kerTo n a n) (by rw [hn]; exact ker_lt a)
  rw [ker_mv H hn HA] at KT
  have E1 := equal_hV (n := n) (a := (mulG n (mulG n a b) a)) (b := (mulG n a (mulG n b a))) (r := true) ⟨fun _ p hp => mul_assoc' HA HB HA p hp, fun _ => rfl⟩
  have E2 := equal_hV (n := n) (a := (mulG n (cut n fun p => 2 ^ p) a)) (b := a) (r := true) ⟨fun _ p hp => mul_silent HA p hp, fun _ => rfl⟩
  have E3 := equal_hV (n := n) (a := (mulG n (orG n a b) b)) (b := (orG n (mulG n a b) (mulG n b b))) (r := true) ⟨fun _ p hp => mul_or HA HB HB p hp, fun _ => rfl⟩
  have E4 := equal_hV (n := n) (a := (mulG n (mvG n pl a) (mvG n pl b))) (b := (mvG n pl (mulG n a b))) (r := true) ⟨fun _ p hp => mv_mul H hn HA HB p hp, fun _ => rfl⟩
  have E5 := equal_hV (n := n) (a := (mvG n (invP pl) (mvG n pl a))) (b := a) (r := true) ⟨fun _ p hp => mv_back H hn HA p hp, fun _ => rfl⟩
  have EG1 : Tryd.prog.eqGuardType Tryd.prog.depth 24 = false := by kernel_rfl
  have KRP := Lib.hid fun W (hW : Below w.heap.size w W) => refPerm_calls (hv.ext hW)
  have HIS : Hid (IsP (permI pl)) := Lib.hid ⟨pl, rfl, H⟩
  have DL := Lib.hid (show (((permI pl).length : Int) != (n : Int)) = false by simp [hn])
  have OKG : Hid (∀ i, i < [((n : Int), fun p => (a p : Int)), ((n : Int), fun p => (b p : Int))].length → okG [((n : Int), fun p => (a p : Int)), ((n : Int), fun p => (b p : Int))] i) :=
    Lib.hid ((gs2 _ _ _ _ _).2 ⟨⟨⟨n, a, rfl, HA, fun _ _ => rfl⟩, rfl⟩, ⟨⟨n, b, rfl, HB, fun _ _ => rfl⟩, rfl⟩⟩)
  clear Hsl Hab Hba Hsu Hbb Hx Hy HA HB hv
  obtain ⟨ag, hag⟩ : ∃ z, z = (mvG n (invP pl) (mvG n pl a)) := ⟨_, rfl⟩
  simp only [← hag] at KC1 KC2 KC3 KC4 KS KC5 KU1 KC6 KC7 KU2 KP1 KP2 KC8 KP3 KP4 KK1 KK2 KT E1 E2 E3 E4 E5
  clear hag
  obtain ⟨ll, hll⟩ : ∃ z, z = (mulG n (mulG n a b) a) := ⟨_, rfl⟩
  simp only [← hll] at KC1 KC2 KC3 KC4 KS KC5 KU1 KC6 KC7 KU2 KP1 KP2 KC8 KP3 KP4 KK1 KK2 KT E1 E2 E3 E4 E5
  clear hll
  obtain ⟨rr, hrr⟩ : ∃ z, z = (mulG n a (mulG n b a)) := ⟨_, rfl⟩
  simp only [← hrr] at KC1 KC2 KC3 KC4 KS KC5 KU1 KC6 KC7 KU2 KP1 KP2 KC8 KP3 KP4 KK1 KK2 KT E1 E2 E3 E4 E5
  clear hrr
  obtain ⟨sm, hsm⟩ : ∃ z, z = (mulG n (cut n fun p => 2 ^ p) a) := ⟨_, rfl⟩
  simp only [← hsm] at KC1 KC2 KC3 KC4 KS KC5 KU1 KC6 KC7 KU2 KP1 KP2 KC8 KP3 KP4 KK1 KK2 KT E1 E2 E3 E4 E5
  clear hsm
  obtain ⟨wh, hwh⟩ : ∃ z, z = (mulG n (orG n a b) b) := ⟨_, rfl⟩
  simp only [← hwh] at KC1 KC2 KC3 KC4 KS KC5 KU1 KC6 KC7 KU2 KP1 KP2 KC8 KP3 KP4 KK1 KK2 KT E1 E2 E3 E4 E5
  clear hwh
  obtain ⟨pt, hpt⟩ : ∃ z, z = (orG n (mulG n a b) (mulG n b b)) := ⟨_, rfl⟩
  simp only [← hpt] at KC1 KC2 KC3 KC4 KS KC5 KU1 KC6 KC7 KU2 KP1 KP2 KC8 KP3 KP4 KK1 KK2 KT E1 E2 E3 E4 E5
  clear hpt
  obtain ⟨xy, hxy⟩ : ∃ z, z = (mulG n (mvG n pl a) (mvG n pl b)) := ⟨_, rfl⟩
  simp only [← hxy] at KC1 KC2 KC3 KC4 KS KC5 KU1 KC6 KC7 KU2 KP1 KP2 KC8 KP3 KP4 KK1 KK2 KT E1 E2 E3 E4 E5
  clear hxy
  obtain ⟨mv, hmv⟩ : ∃ z, z = (mvG n pl (mulG n a b)) := ⟨_, rfl⟩
  simp only [← hmv] at KC1 KC2 KC3 KC4 KS KC5 KU1 KC6 KC7 KU2 KP1 KP2 KC8 KP3 KP4 KK1 KK2 KT E1 E2 E3 E4 E5
  clear hmv
  obtain ⟨ab, hab⟩ : ∃ z, z = (mulG n a b) := ⟨_, rfl⟩
  simp only [← hab] at KC1 KC2 KC3 KC4 KS KC5 KU1 KC6 KC7 KU2 KP1 KP2 KC8 KP3 KP4 KK1 KK2 KT E1 E2 E3 E4 E5
  clear hab
  obtain ⟨ba, hba⟩ : ∃ z, z = (mulG n b a) := ⟨_, rfl⟩
  simp only [← hba] at KC1 KC2 KC3 KC4 KS KC5 KU1 KC6 KC7 KU2 KP1 KP2 KC8 KP3 KP4 KK1 KK2 KT E1 E2 E3 E4 E5
  clear hba
  obtain ⟨sl, hsl⟩ : ∃ z, z = (cut n fun p => 2 ^ p) := ⟨_, rfl⟩
  simp only [← hsl] at KC1 KC2 KC3 KC4 KS KC5 KU1 KC6 KC7 KU2 KP1 KP2 KC8 KP3 KP4 KK1 KK2 KT E1 E2 E3 E4 E5
  clear hsl
  obtain ⟨su, hsu⟩ : ∃ z, z = (orG n a b) := ⟨_, rfl⟩
  simp only [← hsu] at KC1 KC2 KC3 KC4 KS KC5 KU1 KC6 KC7 KU2 KP1 KP2 KC8 KP3 KP4 KK1 KK2 KT E1 E2 E3 E4 E5
  clear hsu
  obtain ⟨bb, hbb⟩ : ∃ z, z = (mulG n b b) := ⟨_, rfl⟩
  simp only [← hbb] at KC1 KC2 KC3 KC4 KS KC5 KU1 KC6 KC7 KU2 KP1 KP2 KC8 KP3 KP4 KK1 KK2 KT E1 E2 E3 E4 E5
  clear hbb
  obtain ⟨x, hx⟩ : ∃ z, z = (mvG n pl a) := ⟨_, rfl⟩
  simp only [← hx] at KC1 KC2 KC3 KC4 KS KC5 KU1 KC6 KC7 KU2 KP1 KP2 KC8 KP3 KP4 KK1 KK2 KT E1 E2 E3 E4 E5
  clear hx
  obtain ⟨y, hy⟩ : ∃ z, z = (mvG n pl b) := ⟨_, rfl⟩
  simp only [← hy] at KC1 KC2 KC3 KC4 KS KC5 KU1 KC6 KC7 KU2 KP1 KP2 KC8 KP3 KP4 KK1 KK2 KT E1 E2 E3 E4 E5
  clear hy
  obtain ⟨l, hl⟩ : ∃ l, l = permI pl := ⟨_, rfl⟩
  simp only [← hl] at KP1 KP2 KP3 KI KT KRP HIS DL ⊢
  clear hl
  obtain ⟨z1, hz1⟩ : ∃ z, z = kerTo n a n := ⟨_, rfl⟩
  obtain ⟨z2, hz2⟩ : ∃ z, z = kerTo n x n := ⟨_, rfl⟩
  simp only [← hz1] at KK1 KT
  simp only [← hz2] at KK2 KT
  clear hz1 hz2 H hn
  obtain ⟨l9, hl9⟩ : ∃ z, z = permI (invP pl) := ⟨_, rfl⟩
  simp only [← hl9] at KI KP4
  clear hl9
  unfold hV gV at E1 E2 E3 E4 E5 KC1 KC2 KC3 KC4 KC5 KC6 KC7 KC8 KS KU1 KU2 KP1 KP2 KP3 KP4 KK1 KK2
  unfold hV
  unfold gV
  have Ra : Row (w.alloc (.cells #[.int .i64 n, .int .i64 (a 0), .int .i64 (a 1), .int .i64 (a 2), .int .i64 (a 3), .int .i64 (a 4)] 24)) (w).heap.size 24 (gC n fun p => (a p : Int)) := row_new _ _ 24
  try simp only [World.size_alloc] at Ra
  replace Ra := Ra.alloc (.cells #[.int .i64 n, .int .i64 (b 0), .int .i64 (b 1), .int .i64 (b 2), .int .i64 (b 3), .int .i64 (b 4)] 24)
  have Rb : Row ((w.alloc (.cells #[.int .i64 n, .int .i64 (a 0), .int .i64 (a 1), .int .i64 (a 2), .int .i64 (a 3), .int .i64 (a 4)] 24)).alloc (.cells #[.int .i64 n, .int .i64 (b 0), .int .i64 (b 1), .int .i64 (b 2), .int .i64 (b 3), .int .i64 (b 4)] 24)) ((w.alloc (.cells #[.int .i64 n, .int .i64 (a 0), .int .i64 (a 1), .int .i64 (a 2), .int .i64 (a 3), .int .i64 (a 4)] 24))).heap.size 24 (gC n fun p => (b p : Int)) := row_new _ _ 24
  try simp only [World.size_alloc] at Rb
  have ex0 := ext_alloc' (ext_alloc w (.cells #[.int .i64 n, .int .i64 (a 0), .int .i64 (a 1), .int .i64 (a 2), .int .i64 (a 3), .int .i64 (a 4)] 24)) (.cells #[.int .i64 n, .int .i64 (b 0), .int .i64 (b 1), .int .i64 (b 2), .int .i64 (b 3), .int .i64 (b 4)] 24)
  have KA := Lib.hid (awake_calls (TB.ext ex0))
  go_enter Tryd.func4, Tryd.ntmps4
  go_wp2_with fail
  refine (KA.out).mono ?_
  rintro _ w1 ⟨_, rfl, hb, rfl⟩
  have ex1 := ext_trans ex0 hb
  replace Ra := Ra.ext hb
  replace Rb := Rb.ext hb
  clear hb
  clear KA
  have RS : Row (w1.alloc (.cells #[.int .i64 n, .int .i64 (a 0), .int .i64 (a 1), .int .i64 (a 2), .int .i64 (a 3), .int .i64 (a 4), .int .i64 n, .int .i64 (b 0), .int .i64 (b 1), .int .i64 (b 2), .int .i64 (b 3), .int .i64 (b 4)] 24)) w1.heap.size 24 (gsC [((n : Int), fun p => (a p : Int)), ((n : Int), fun p => (b p : Int))]) := row_new w1 _ 24
  have KG := Lib.hid (caseGraphs_calls RS (by simp) (by simp))
  have ex1g := ext_alloc' ex1 (.cells #[.int .i64 n, .int .i64 (a 0), .int .i64 (a 1), .int .i64 (a 2), .int .i64 (a 3), .int .i64 (a 4), .int .i64 n, .int .i64 (b 0), .int .i64 (b 1), .int .i64 (b 2), .int .i64 (b 3), .int .i64 (b 4)] 24)
  obtain ⟨sa0, sa1, sa2, sa3, sa4, sa5⟩ := Ra.six
  obtain ⟨sb0, sb1, sb2, sb3, sb4, sb5⟩ := Rb.six
  clear RS
  go_wp2_with fail
  clear sa0 sa1 sa2 sa3 sa4 sa5
  clear sb0 sb1 sb2 sb3 sb4 sb5
  replace Ra := Ra.alloc (.cells #[.int .i64 n, .int .i64 (a 0), .int .i64 (a 1), .int .i64 (a 2), .int .i64 (a 3), .int .i64 (a 4), .int .i64 n, .int .i64 (b 0), .int .i64 (b 1), .int .i64 (b 2), .int .i64 (b 3), .int .i64 (b 4)] 24)
  replace Rb := Rb.alloc (.cells #[.int .i64 n, .int .i64 (a 0), .int .i64 (a 1), .int .i64 (a 2), .int .i64 (a 3), .int .i64 (a 4), .int .i64 n, .int .i64 (b 0), .int .i64 (b 1), .int .i64 (b 2), .int .i64 (b 3), .int .i64 (b 4)] 24)
  refine KG.out.mono ?_
  rintro _ w2 ⟨_, rfl, hb, b, rfl, hiff⟩
  have ex2 := ext_trans ex1g hb
  replace Ra := Ra.ext hb
  replace Rb := Rb.ext hb
  clear hb KG
  have hbt := hiff.2 OKG.out
  subst hbt
  clear hiff OKG
  have dl := DL.out
  obtain ⟨sa0, sa1, sa2, sa3, sa4, sa5⟩ := Ra.six
  go_wp2_with fail
  refine (KRP.out _ ex2).mono ?_
  rintro _ w3 ⟨x0, rfl, hq, hx0⟩
  have hxe := hx0.2 HIS.out
  subst hxe
  have hb := hq.ext
  clear sa0 sa1 sa2 sa3 sa4 sa5
  have ex3 := ext_trans ex2 hb
  clear hx0 hq dl KRP HIS DL
  replace Ra := Ra.ext hb
  replace Rb := Rb.ext hb
  clear hb
  obtain ⟨sa0, sa1, sa2, sa3, sa4, sa5⟩ := Ra.six
  obtain ⟨sb0, sb1, sb2, sb3, sb4, sb5⟩ := Rb.six
  go_wp2_with fail
  refine (KC1.out _ ex3).mono ?_
  rintro _ w4 ⟨_, rfl, hb, rfl⟩
  clear sa0 sa1 sa2 sa3 sa4 sa5
  clear sb0 sb1 sb2 sb3 sb4 sb5
  have ex4 := ext_trans ex3 hb
  replace Ra := Ra.ext hb
  replace Rb := Rb.ext hb
  clear hb
  replace Ra := Ra.alloc (.cells #[.int .i64 n, .int .i64 (ab 0), .int .i64 (ab 1), .int .i64 (ab 2), .int .i64 (ab 3), .int .i64 (ab 4)] 24)
  replace Rb := Rb.alloc (.cells #[.int .i64 n, .int .i64 (ab 0), .int .i64 (ab 1), .int .i64 (ab 2), .int .i64 (ab 3), .int .i64 (ab 4)] 24)
  have Rab : Row (w4.alloc (.cells #[.int .i64 n, .int .i64 (ab 0), .int .i64 (ab 1), .int .i64 (ab 2), .int .i64 (ab 3), .int .i64 (ab 4)] 24)) w4.heap.size 24 (gC n fun p => (ab p : Int)) := row_new w4 [.int .i64 n, .int .i64 (ab 0), .int .i64 (ab 1), .int .i64 (ab 2), .int .i64 (ab 3), .int .i64 (ab 4)] 24
  have ex4g := ext_alloc' ex4 (.cells #[.int .i64 n, .int .i64 (ab 0), .int .i64 (ab 1), .int .i64 (ab 2), .int .i64 (ab 3), .int .i64 (ab 4)] 24)
  obtain ⟨sa0, sa1, sa2, sa3, sa4, sa5⟩ := Ra.six
  obtain ⟨sb0, sb1, sb2, sb3, sb4, sb5⟩ := Rb.six
  go_wp2_with fail
  refine (KC2.out _ ex4g).mono ?_
  rintro _ w5 ⟨_, rfl, hb, rfl⟩
  clear sa0 sa1 sa2 sa3 sa4 sa5
  clear sb0 sb1 sb2 sb3 sb4 sb5
  have ex5 := ext_trans ex4g hb
  replace Ra := Ra.ext hb
  replace Rb := Rb.ext hb
  replace Rab := Rab.ext hb
  clear hb
  replace Ra := Ra.alloc (.cells #[.int .i64 n, .int .i64 (ba 0), .int .i64 (ba 1), .int .i64 (ba 2), .int .i64 (ba 3), .int .i64 (ba 4)] 24)
  replace Rb := Rb.alloc (.cells #[.int .i64 n, .int .i64 (ba 0), .int .i64 (ba 1), .int .i64 (ba 2), .int .i64 (ba 3), .int .i64 (ba 4)] 24)
  replace Rab := Rab.alloc (.cells #[.int .i64 n, .int .i64 (ba 0), .int .i64 (ba 1), .int .i64 (ba 2), .int .i64 (ba 3), .int .i64 (ba 4)] 24)
  have Rba : Row (w5.alloc (.cells #[.int .i64 n, .int .i64 (ba 0), .int .i64 (ba 1), .int .i64 (ba 2), .int .i64 (ba 3), .int .i64 (ba 4)] 24)) w5.heap.size 24 (gC n fun p => (ba p : Int)) := row_new w5 [.int .i64 n, .int .i64 (ba 0), .int .i64 (ba 1), .int .i64 (ba 2), .int .i64 (ba 3), .int .i64 (ba 4)] 24
  have ex5g := ext_alloc' ex5 (.cells #[.int .i64 n, .int .i64 (ba 0), .int .i64 (ba 1), .int .i64 (ba 2), .int .i64 (ba 3), .int .i64 (ba 4)] 24)
  obtain ⟨sa0, sa1, sa2, sa3, sa4, sa5⟩ := Ra.six
  obtain ⟨sab0, sab1, sab2, sab3, sab4, sab5⟩ := Rab.six
  go_wp2_with fail
  refine (KC3.out _ ex5g).mono ?_
  rintro _ w6 ⟨_, rfl, hb, rfl⟩
  clear sa0 sa1 sa2 sa3 sa4 sa5
  clear sab0 sab1 sab2 sab3 sab4 sab5
  have ex6 := ext_trans ex5g hb
  replace Ra := Ra.ext hb
  replace Rb := Rb.ext hb
  replace Rab := Rab.ext hb
  replace Rba := Rba.ext hb
  clear hb
  replace Ra := Ra.alloc (.cells #[.int .i64 n, .int .i64 (ll 0), .int .i64 (ll 1), .int .i64 (ll 2), .int .i64 (ll 3), .int .i64 (ll 4)] 24)
  replace Rb := Rb.alloc (.cells #[.int .i64 n, .int .i64 (ll 0), .int .i64 (ll 1), .int .i64 (ll 2), .int .i64 (ll 3), .int .i64 (ll 4)] 24)
  replace Rab := Rab.alloc (.cells #[.int .i64 n, .int .i64 (ll 0), .int .i64 (ll 1), .int .i64 (ll 2), .int .i64 (ll 3), .int .i64 (ll 4)] 24)
  replace Rba := Rba.alloc (.cells #[.int .i64 n, .int .i64 (ll 0), .int .i64 (ll 1), .int .i64 (ll 2), .int .i64 (ll 3), .int .i64 (ll 4)] 24)
  have Rll : Row (w6.alloc (.cells #[.int .i64 n, .int .i64 (ll 0), .int .i64 (ll 1), .int .i64 (ll 2), .int .i64 (ll 3), .int .i64 (ll 4)] 24)) w6.heap.size 24 (gC n fun p => (ll p : Int)) := row_new w6 [.int .i64 n, .int .i64 (ll 0), .int .i64 (ll 1), .int .i64 (ll 2), .int .i64 (ll 3), .int .i64 (ll 4)] 24
  have ex6g := ext_alloc' ex6 (.cells #[.int .i64 n, .int .i64 (ll 0), .int .i64 (ll 1), .int .i64 (ll 2), .int .i64 (ll 3), .int .i64 (ll 4)] 24)
  obtain ⟨sa0, sa1, sa2, sa3, sa4, sa5⟩ := Ra.six
  obtain ⟨sba0, sba1, sba2, sba3, sba4, sba5⟩ := Rba.six
  go_wp2_with fail
  refine (KC4.out _ ex6g).mono ?_
  rintro _ w7 ⟨_, rfl, hb, rfl⟩
  clear sa0 sa1 sa2 sa3 sa4 sa5
  clear sba0 sba1 sba2 sba3 sba4 sba5
  have ex7 := ext_trans ex6g hb
  replace Ra := Ra.ext hb
  replace Rb := Rb.ext hb
  replace Rab := Rab.ext hb
  replace Rba := Rba.ext hb
  replace Rll := Rll.ext hb
  clear hb
  replace Ra := Ra.alloc (.cells #[.int .i64 n, .int .i64 (rr 0), .int .i64 (rr 1), .int .i64 (rr 2), .int .i64 (rr 3), .int .i64 (rr 4)] 24)
  replace Rb := Rb.alloc (.cells #[.int .i64 n, .int .i64 (rr 0), .int .i64 (rr 1), .int .i64 (rr 2), .int .i64 (rr 3), .int .i64 (rr 4)] 24)
  replace Rab := Rab.alloc (.cells #[.int .i64 n, .int .i64 (rr 0), .int .i64 (rr 1), .int .i64 (rr 2), .int .i64 (rr 3), .int .i64 (rr 4)] 24)
  replace Rba := Rba.alloc (.cells #[.int .i64 n, .int .i64 (rr 0), .int .i64 (rr 1), .int .i64 (rr 2), .int .i64 (rr 3), .int .i64 (rr 4)] 24)
  replace Rll := Rll.alloc (.cells #[.int .i64 n, .int .i64 (rr 0), .int .i64 (rr 1), .int .i64 (rr 2), .int .i64 (rr 3), .int .i64 (rr 4)] 24)
  have Rrr : Row (w7.alloc (.cells #[.int .i64 n, .int .i64 (rr 0), .int .i64 (rr 1), .int .i64 (rr 2), .int .i64 (rr 3), .int .i64 (rr 4)] 24)) w7.heap.size 24 (gC n fun p => (rr p : Int)) := row_new w7 [.int .i64 n, .int .i64 (rr 0), .int .i64 (rr 1), .int .i64 (rr 2), .int .i64 (rr 3), .int .i64 (rr 4)] 24
  have ex7g := ext_alloc' ex7 (.cells #[.int .i64 n, .int .i64 (rr 0), .int .i64 (rr 1), .int .i64 (rr 2), .int .i64 (rr 3), .int .i64 (rr 4)] 24)
  obtain ⟨sa0, sa1, sa2, sa3, sa4, sa5⟩ := Ra.six
  go_wp2_with fail
  refine (KS.out _).mono ?_
  rintro _ w8 ⟨_, rfl, hb, rfl⟩
  clear sa0 sa1 sa2 sa3 sa4 sa5
  have ex8 := ext_trans ex7g hb
  replace Ra := Ra.ext hb
  replace Rb := Rb.ext hb
  replace Rab := Rab.ext hb
  replace Rba := Rba.ext hb
  replace Rll := Rll.ext hb
  replace Rrr := Rrr.ext hb
  clear hb
  replace Ra := Ra.alloc (.cells #[.int .i64 n, .int .i64 (sl 0), .int .i64 (sl 1), .int .i64 (sl 2), .int .i64 (sl 3), .int .i64 (sl 4)] 24)
  replace Rb := Rb.alloc (.cells #[.int .i64 n, .int .i64 (sl 0), .int .i64 (sl 1), .int .i64 (sl 2), .int .i64 (sl 3), .int .i64 (sl 4)] 24)
  replace Rab := Rab.alloc (.cells #[.int .i64 n, .int .i64 (sl 0), .int .i64 (sl 1), .int .i64 (sl 2), .int .i64 (sl 3), .int .i64 (sl 4)] 24)
  replace Rba := Rba.alloc (.cells #[.int .i64 n, .int .i64 (sl 0), .int .i64 (sl 1), .int .i64 (sl 2), .int .i64 (sl 3), .int .i64 (sl 4)] 24)
  replace Rll := Rll.alloc (.cells #[.int .i64 n, .int .i64 (sl 0), .int .i64 (sl 1), .int .i64 (sl 2), .int .i64 (sl 3), .int .i64 (sl 4)] 24)
  replace Rrr := Rrr.alloc (.cells #[.int .i64 n, .int .i64 (sl 0), .int .i64 (sl 1), .int .i64 (sl 2), .int .i64 (sl 3), .int .i64 (sl 4)] 24)
  have Rsl : Row (w8.alloc (.cells #[.int .i64 n, .int .i64 (sl 0), .int .i64 (sl 1), .int .i64 (sl 2), .int .i64 (sl 3), .int .i64 (sl 4)] 24)) w8.heap.size 24 (gC n fun p => (sl p : Int)) := row_new w8 [.int .i64 n, .int .i64 (sl 0), .int .i64 (sl 1), .int .i64 (sl 2), .int .i64 (sl 3), .int .i64 (sl 4)] 24
  have ex8g := ext_alloc' ex8 (.cells #[.int .i64 n, .int .i64 (sl 0), .int .i64 (sl 1), .int .i64 (sl 2), .int .i64 (sl 3), .int .i64 (sl 4)] 24)
  obtain ⟨sa0, sa1, sa2, sa3, sa4, sa5⟩ := Ra.six
  obtain ⟨ssl0, ssl1, ssl2, ssl3, ssl4, ssl5⟩ := Rsl.six
  go_wp2_with fail
  refine (KC5.out _ ex8g).mono ?_
  rintro _ w9 ⟨_, rfl, hb, rfl⟩
  clear sa0 sa1 sa2 sa3 sa4 sa5
  clear ssl0 ssl1 ssl2 ssl3 ssl4 ssl5
  have ex9 := ext_trans ex8g hb
  replace Ra := Ra.ext hb
  replace Rb := Rb.ext hb
  replace Rab := Rab.ext hb
  replace Rba := Rba.ext hb
  replace Rll := Rll.ext hb
  replace Rrr := Rrr.ext hb
  replace Rsl := Rsl.ext hb
  clear hb
  replace Ra := Ra.alloc (.cells #[.int .i64 n, .int .i64 (sm 0), .int .i64 (sm 1), .int .i64 (sm 2), .int .i64 (sm 3), .int .i64 (sm 4)] 24)
  replace Rb := Rb.alloc (.cells #[.int .i64 n, .int .i64 (sm 0), .int .i64 (sm 1), .int .i64 (sm 2), .int .i64 (sm 3), .int .i64 (sm 4)] 24)
  replace Rab := Rab.alloc (.cells #[.int .i64 n, .int .i64 (sm 0), .int .i64 (sm 1), .int .i64 (sm 2), .int .i64 (sm 3), .int .i64 (sm 4)] 24)
  replace Rba := Rba.alloc (.cells #[.int .i64 n, .int .i64 (sm 0), .int .i64 (sm 1), .int .i64 (sm 2), .int .i64 (sm 3), .int .i64 (sm 4)] 24)
  replace Rll := Rll.alloc (.cells #[.int .i64 n, .int .i64 (sm 0), .int .i64 (sm 1), .int .i64 (sm 2), .int .i64 (sm 3), .int .i64 (sm 4)] 24)
  replace Rrr := Rrr.alloc (.cells #[.int .i64 n, .int .i64 (sm 0), .int .i64 (sm 1), .int .i64 (sm 2), .int .i64 (sm 3), .int .i64 (sm 4)] 24)
  replace Rsl := Rsl.alloc (.cells #[.int .i64 n, .int .i64 (sm 0), .int .i64 (sm 1), .int .i64 (sm 2), .int .i64 (sm 3), .int .i64 (sm 4)] 24)
  have Rsm : Row (w9.alloc (.cells #[.int .i64 n, .int .i64 (sm 0), .int .i64 (sm 1), .int .i64 (sm 2), .int .i64 (sm 3), .int .i64 (sm 4)] 24)) w9.heap.size 24 (gC n fun p => (sm p : Int)) := row_new w9 [.int .i64 n, .int .i64 (sm 0), .int .i64 (sm 1), .int .i64 (sm 2), .int .i64 (sm 3), .int .i64 (sm 4)] 24
  have ex9g := ext_alloc' ex9 (.cells #[.int .i64 n, .int .i64 (sm 0), .int .i64 (sm 1), .int .i64 (sm 2), .int .i64 (sm 3), .int .i64 (sm 4)] 24)
  obtain ⟨sa0, sa1, sa2, sa3, sa4, sa5⟩ := Ra.six
  obtain ⟨sb0, sb1, sb2, sb3, sb4, sb5⟩ := Rb.six
  obtain ⟨sll0, sll1, sll2, sll3, sll4, sll5⟩ := Rll.six
  obtain ⟨srr0, srr1, srr2, srr3, srr4, srr5⟩ := Rrr.six
  obtain ⟨ssm0, ssm1, ssm2, ssm3, ssm4, ssm5⟩ := Rsm.six
  go_wp2_with fail
  refine (KU1.out _).mono ?_
  rintro _ w10 ⟨_, rfl, hb, rfl⟩
  clear sa0 sa1 sa2 sa3 sa4 sa5
  clear sb0 sb1 sb2 sb3 sb4 sb5
  clear sll0 sll1 sll2 sll3 sll4 sll5
  clear srr0 srr1 srr2 srr3 srr4 srr5
  clear ssm0 ssm1 ssm2 ssm3 ssm4 ssm5
  have ex10 := ext_trans ex9g hb
  replace Ra := Ra.ext hb
  replace Rb := Rb.ext hb
  replace Rab := Rab.ext hb
  replace Rba := Rba.ext hb
  replace Rll := Rll.ext hb
  replace Rrr := Rrr.ext hb
  replace Rsl := Rsl.ext hb
  replace Rsm := Rsm.ext hb
  clear hb
  replace Ra := Ra.alloc (.cells #[.int .i64 n, .int .i64 (su 0), .int .i64 (su 1), .int .i64 (su 2), .int .i64 (su 3), .int .i64 (su 4)] 24)
  replace Rb := Rb.alloc (.cells #[.int .i64 n, .int .i64 (su 0), .int .i64 (su 1), .int .i64 (su 2), .int .i64 (su 3), .int .i64 (su 4)] 24)
  replace Rab := Rab.alloc (.cells #[.int .i64 n, .int .i64 (su 0), .int .i64 (su 1), .int .i64 (su 2), .int .i64 (su 3), .int .i64 (su 4)] 24)
  replace Rba := Rba.alloc (.cells #[.int .i64 n, .int .i64 (su 0), .int .i64 (su 1), .int .i64 (su 2), .int .i64 (su 3), .int .i64 (su 4)] 24)
  replace Rll := Rll.alloc (.cells #[.int .i64 n, .int .i64 (su 0), .int .i64 (su 1), .int .i64 (su 2), .int .i64 (su 3), .int .i64 (su 4)] 24)
  replace Rrr := Rrr.alloc (.cells #[.int .i64 n, .int .i64 (su 0), .int .i64 (su 1), .int .i64 (su 2), .int .i64 (su 3), .int .i64 (su 4)] 24)
  replace Rsl := Rsl.alloc (.cells #[.int .i64 n, .int .i64 (su 0), .int .i64 (su 1), .int .i64 (su 2), .int .i64 (su 3), .int .i64 (su 4)] 24)
  replace Rsm := Rsm.alloc (.cells #[.int .i64 n, .int .i64 (su 0), .int .i64 (su 1), .int .i64 (su 2), .int .i64 (su 3), .int .i64 (su 4)] 24)
  have Rsu : Row (w10.alloc (.cells #[.int .i64 n, .int .i64 (su 0), .int .i64 (su 1), .int .i64 (su 2), .int .i64 (su 3), .int .i64 (su 4)] 24)) w10.heap.size 24 (gC n fun p => (su p : Int)) := row_new w10 [.int .i64 n, .int .i64 (su 0), .int .i64 (su 1), .int .i64 (su 2), .int .i64 (su 3), .int .i64 (su 4)] 24
  have ex10g := ext_alloc' ex10 (.cells #[.int .i64 n, .int .i64 (su 0), .int .i64 (su 1), .int .i64 (su 2), .int .i64 (su 3), .int .i64 (su 4)] 24)
  obtain ⟨sb0, sb1, sb2, sb3, sb4, sb5⟩ := Rb.six
  obtain ⟨ssu0, ssu1, ssu2, ssu3, ssu4, ssu5⟩ := Rsu.six
  go_wp2_with fail
  refine (KC6.out _ ex10g).mono ?_
  rintro _ w11 ⟨_, rfl, hb, rfl⟩
  clear sb0 sb1 sb2 sb3 sb4 sb5
  clear ssu0 ssu1 ssu2 ssu3 ssu4 ssu5
  have ex11 := ext_trans ex10g hb
  replace Ra := Ra.ext hb
  replace Rb := Rb.ext hb
  replace Rab := Rab.ext hb
  replace Rba := Rba.ext hb
  replace Rll := Rll.ext hb
  replace Rrr := Rrr.ext hb
  replace Rsl := Rsl.ext hb
  replace Rsm := Rsm.ext hb
  replace Rsu := Rsu.ext hb
  clear hb
  replace Ra := Ra.alloc (.cells #[.int .i64 n, .int .i64 (wh 0), .int .i64 (wh 1), .int .i64 (wh 2), .int .i64 (wh 3), .int .i64 (wh 4)] 24)
  replace Rb := Rb.alloc (.cells #[.int .i64 n, .int .i64 (wh 0), .int .i64 (wh 1), .int .i64 (wh 2), .int .i64 (wh 3), .int .i64 (wh 4)] 24)
  replace Rab := Rab.alloc (.cells #[.int .i64 n, .int .i64 (wh 0), .int .i64 (wh 1), .int .i64 (wh 2), .int .i64 (wh 3), .int .i64 (wh 4)] 24)
  replace Rba := Rba.alloc (.cells #[.int .i64 n, .int .i64 (wh 0), .int .i64 (wh 1), .int .i64 (wh 2), .int .i64 (wh 3), .int .i64 (wh 4)] 24)
  replace Rll := Rll.alloc (.cells #[.int .i64 n, .int .i64 (wh 0), .int .i64 (wh 1), .int .i64 (wh 2), .int .i64 (wh 3), .int .i64 (wh 4)] 24)
  replace Rrr := Rrr.alloc (.cells #[.int .i64 n, .int .i64 (wh 0), .int .i64 (wh 1), .int .i64 (wh 2), .int .i64 (wh 3), .int .i64 (wh 4)] 24)
  replace Rsl := Rsl.alloc (.cells #[.int .i64 n, .int .i64 (wh 0), .int .i64 (wh 1), .int .i64 (wh 2), .int .i64 (wh 3), .int .i64 (wh 4)] 24)
  replace Rsm := Rsm.alloc (.cells #[.int .i64 n, .int .i64 (wh 0), .int .i64 (wh 1), .int .i64 (wh 2), .int .i64 (wh 3), .int .i64 (wh 4)] 24)
  replace Rsu := Rsu.alloc (.cells #[.int .i64 n, .int .i64 (wh 0), .int .i64 (wh 1), .int .i64 (wh 2), .int .i64 (wh 3), .int .i64 (wh 4)] 24)
  have Rwh : Row (w11.alloc (.cells #[.int .i64 n, .int .i64 (wh 0), .int .i64 (wh 1), .int .i64 (wh 2), .int .i64 (wh 3), .int .i64 (wh 4)] 24)) w11.heap.size 24 (gC n fun p => (wh p : Int)) := row_new w11 [.int .i64 n, .int .i64 (wh 0), .int .i64 (wh 1), .int .i64 (wh 2), .int .i64 (wh 3), .int .i64 (wh 4)] 24
  have ex11g := ext_alloc' ex11 (.cells #[.int .i64 n, .int .i64 (wh 0), .int .i64 (wh 1), .int .i64 (wh 2), .int .i64 (wh 3), .int .i64 (wh 4)] 24)
  obtain ⟨sb0, sb1, sb2, sb3, sb4, sb5⟩ := Rb.six
  go_wp2_with fail
  refine (KC7.out _ ex11g).mono ?_
  rintro _ w12 ⟨_, rfl, hb, rfl⟩
  clear sb0 sb1 sb2 sb3 sb4 sb5
  have ex12 := ext_trans ex11g hb
  replace Ra := Ra.ext hb
  replace Rb := Rb.ext hb
  replace Rab := Rab.ext hb
  replace Rba := Rba.ext hb
  replace Rll := Rll.ext hb
  replace Rrr := Rrr.ext hb
  replace Rsl := Rsl.ext hb
  replace Rsm := Rsm.ext hb
  replace Rsu := Rsu.ext hb
  replace Rwh := Rwh.ext hb
  clear hb
  replace Ra := Ra.alloc (.cells #[.int .i64 n, .int .i64 (bb 0), .int .i64 (bb 1), .int .i64 (bb 2), .int .i64 (bb 3), .int .i64 (bb 4)] 24)
  replace Rb := Rb.alloc (.cells #[.int .i64 n, .int .i64 (bb 0), .int .i64 (bb 1), .int .i64 (bb 2), .int .i64 (bb 3), .int .i64 (bb 4)] 24)
  replace Rab := Rab.alloc (.cells #[.int .i64 n, .int .i64 (bb 0), .int .i64 (bb 1), .int .i64 (bb 2), .int .i64 (bb 3), .int .i64 (bb 4)] 24)
  replace Rba := Rba.alloc (.cells #[.int .i64 n, .int .i64 (bb 0), .int .i64 (bb 1), .int .i64 (bb 2), .int .i64 (bb 3), .int .i64 (bb 4)] 24)
  replace Rll := Rll.alloc (.cells #[.int .i64 n, .int .i64 (bb 0), .int .i64 (bb 1), .int .i64 (bb 2), .int .i64 (bb 3), .int .i64 (bb 4)] 24)
  replace Rrr := Rrr.alloc (.cells #[.int .i64 n, .int .i64 (bb 0), .int .i64 (bb 1), .int .i64 (bb 2), .int .i64 (bb 3), .int .i64 (bb 4)] 24)
  replace Rsl := Rsl.alloc (.cells #[.int .i64 n, .int .i64 (bb 0), .int .i64 (bb 1), .int .i64 (bb 2), .int .i64 (bb 3), .int .i64 (bb 4)] 24)
  replace Rsm := Rsm.alloc (.cells #[.int .i64 n, .int .i64 (bb 0), .int .i64 (bb 1), .int .i64 (bb 2), .int .i64 (bb 3), .int .i64 (bb 4)] 24)
  replace Rsu := Rsu.alloc (.cells #[.int .i64 n, .int .i64 (bb 0), .int .i64 (bb 1), .int .i64 (bb 2), .int .i64 (bb 3), .int .i64 (bb 4)] 24)
  replace Rwh := Rwh.alloc (.cells #[.int .i64 n, .int .i64 (bb 0), .int .i64 (bb 1), .int .i64 (bb 2), .int .i64 (bb 3), .int .i64 (bb 4)] 24)
  have Rbb : Row (w12.alloc (.cells #[.int .i64 n, .int .i64 (bb 0), .int .i64 (bb 1), .int .i64 (bb 2), .int .i64 (bb 3), .int .i64 (bb 4)] 24)) w12.heap.size 24 (gC n fun p => (bb p : Int)) := row_new w12 [.int .i64 n, .int .i64 (bb 0), .int .i64 (bb 1), .int .i64 (bb 2), .int .i64 (bb 3), .int .i64 (bb 4)] 24
  have ex12g := ext_alloc' ex12 (.cells #[.int .i64 n, .int .i64 (bb 0), .int .i64 (bb 1), .int .i64 (bb 2), .int .i64 (bb 3), .int .i64 (bb 4)] 24)
  obtain ⟨sab0, sab1, sab2, sab3, sab4, sab5⟩ := Rab.six
  obtain ⟨sbb0, sbb1, sbb2, sbb3, sbb4, sbb5⟩ := Rbb.six
  go_wp2_with fail
  refine (KU2.out _).mono ?_
  rintro _ w13 ⟨_, rfl, hb, rfl⟩
  clear sab0 sab1 sab2 sab3 sab4 sab5
  clear sbb0 sbb1 sbb2 sbb3 sbb4 sbb5
  have ex13 := ext_trans ex12g hb
  replace Ra := Ra.ext hb
  replace Rb := Rb.ext hb
  replace Rab := Rab.ext hb
  replace Rba := Rba.ext hb
  replace Rll := Rll.ext hb
  replace Rrr := Rrr.ext hb
  replace Rsl := Rsl.ext hb
  replace Rsm := Rsm.ext hb
  replace Rsu := Rsu.ext hb
  replace Rwh := Rwh.ext hb
  replace Rbb := Rbb.ext hb
  clear hb
  replace Ra := Ra.alloc (.cells #[.int .i64 n, .int .i64 (pt 0), .int .i64 (pt 1), .int .i64 (pt 2), .int .i64 (pt 3), .int .i64 (pt 4)] 24)
  replace Rb := Rb.alloc (.cells #[.int .i64 n, .int .i64 (pt 0), .int .i64 (pt 1), .int .i64 (pt 2), .int .i64 (pt 3), .int .i64 (pt 4)] 24)
  replace Rab := Rab.alloc (.cells #[.int .i64 n, .int .i64 (pt 0), .int .i64 (pt 1), .int .i64 (pt 2), .int .i64 (pt 3), .int .i64 (pt 4)] 24)
  replace Rba := Rba.alloc (.cells #[.int .i64 n, .int .i64 (pt 0), .int .i64 (pt 1), .int .i64 (pt 2), .int .i64 (pt 3), .int .i64 (pt 4)] 24)
  replace Rll := Rll.alloc (.cells #[.int .i64 n, .int .i64 (pt 0), .int .i64 (pt 1), .int .i64 (pt 2), .int .i64 (pt 3), .int .i64 (pt 4)] 24)
  replace Rrr := Rrr.alloc (.cells #[.int .i64 n, .int .i64 (pt 0), .int .i64 (pt 1), .int .i64 (pt 2), .int .i64 (pt 3), .int .i64 (pt 4)] 24)
  replace Rsl := Rsl.alloc (.cells #[.int .i64 n, .int .i64 (pt 0), .int .i64 (pt 1), .int .i64 (pt 2), .int .i64 (pt 3), .int .i64 (pt 4)] 24)
  replace Rsm := Rsm.alloc (.cells #[.int .i64 n, .int .i64 (pt 0), .int .i64 (pt 1), .int .i64 (pt 2), .int .i64 (pt 3), .int .i64 (pt 4)] 24)
  replace Rsu := Rsu.alloc (.cells #[.int .i64 n, .int .i64 (pt 0), .int .i64 (pt 1), .int .i64 (pt 2), .int .i64 (pt 3), .int .i64 (pt 4)] 24)
  replace Rwh := Rwh.alloc (.cells #[.int .i64 n, .int .i64 (pt 0), .int .i64 (pt 1), .int .i64 (pt 2), .int .i64 (pt 3), .int .i64 (pt 4)] 24)
  replace Rbb := Rbb.alloc (.cells #[.int .i64 n, .int .i64 (pt 0), .int .i64 (pt 1), .int .i64 (pt 2), .int .i64 (pt 3), .int .i64 (pt 4)] 24)
  have Rpt : Row (w13.alloc (.cells #[.int .i64 n, .int .i64 (pt 0), .int .i64 (pt 1), .int .i64 (pt 2), .int .i64 (pt 3), .int .i64 (pt 4)] 24)) w13.heap.size 24 (gC n fun p => (pt p : Int)) := row_new w13 [.int .i64 n, .int .i64 (pt 0), .int .i64 (pt 1), .int .i64 (pt 2), .int .i64 (pt 3), .int .i64 (pt 4)] 24
  have ex13g := ext_alloc' ex13 (.cells #[.int .i64 n, .int .i64 (pt 0), .int .i64 (pt 1), .int .i64 (pt 2), .int .i64 (pt 3), .int .i64 (pt 4)] 24)
  obtain ⟨sa0, sa1, sa2, sa3, sa4, sa5⟩ := Ra.six
  obtain ⟨spt0, spt1, spt2, spt3, spt4, spt5⟩ := Rpt.six
  obtain ⟨swh0, swh1, swh2, swh3, swh4, swh5⟩ := Rwh.six
  go_wp2_with fail
  refine (KP1.out _ ex13g).mono ?_
  rintro _ w14 ⟨_, rfl, hb, rfl⟩
  clear sa0 sa1 sa2 sa3 sa4 sa5
  clear spt0 spt1 spt2 spt3 spt4 spt5
  clear swh0 swh1 swh2 swh3 swh4 swh5
  have ex14 := ext_trans ex13g hb
  replace Ra := Ra.ext hb
  replace Rb := Rb.ext hb
  replace Rab := Rab.ext hb
  replace Rba := Rba.ext hb
  replace Rll := Rll.ext hb
  replace Rrr := Rrr.ext hb
  replace Rsl := Rsl.ext hb
  replace Rsm := Rsm.ext hb
  replace Rsu := Rsu.ext hb
  replace Rwh := Rwh.ext hb
  replace Rbb := Rbb.ext hb
  replace Rpt := Rpt.ext hb
  clear hb
  replace Ra := Ra.alloc (.cells #[.int .i64 n, .int .i64 (x 0), .int .i64 (x 1), .int .i64 (x 2), .int .i64 (x 3), .int .i64 (x 4)] 24)
  replace Rb := Rb.alloc (.cells #[.int .i64 n, .int .i64 (x 0), .int .i64 (x 1), .int .i64 (x 2), .int .i64 (x 3), .int .i64 (x 4)] 24)
  replace Rab := Rab.alloc (.cells #[.int .i64 n, .int .i64 (x 0), .int .i64 (x 1), .int .i64 (x 2), .int .i64 (x 3), .int .i64 (x 4)] 24)
  replace Rba := Rba.alloc (.cells #[.int .i64 n, .int .i64 (x 0), .int .i64 (x 1), .int .i64 (x 2), .int .i64 (x 3), .int .i64 (x 4)] 24)
  replace Rll := Rll.alloc (.cells #[.int .i64 n, .int .i64 (x 0), .int .i64 (x 1), .int .i64 (x 2), .int .i64 (x 3), .int .i64 (x 4)] 24)
  replace Rrr := Rrr.alloc (.cells #[.int .i64 n, .int .i64 (x 0), .int .i64 (x 1), .int .i64 (x 2), .int .i64 (x 3), .int .i64 (x 4)] 24)
  replace Rsl := Rsl.alloc (.cells #[.int .i64 n, .int .i64 (x 0), .int .i64 (x 1), .int .i64 (x 2), .int .i64 (x 3), .int .i64 (x 4)] 24)
  replace Rsm := Rsm.alloc (.cells #[.int .i64 n, .int .i64 (x 0), .int .i64 (x 1), .int .i64 (x 2), .int .i64 (x 3), .int .i64 (x 4)] 24)
  replace Rsu := Rsu.alloc (.cells #[.int .i64 n, .int .i64 (x 0), .int .i64 (x 1), .int .i64 (x 2), .int .i64 (x 3), .int .i64 (x 4)] 24)
  replace Rwh := Rwh.alloc (.cells #[.int .i64 n, .int .i64 (x 0), .int .i64 (x 1), .int .i64 (x 2), .int .i64 (x 3), .int .i64 (x 4)] 24)
  replace Rbb := Rbb.alloc (.cells #[.int .i64 n, .int .i64 (x 0), .int .i64 (x 1), .int .i64 (x 2), .int .i64 (x 3), .int .i64 (x 4)] 24)
  replace Rpt := Rpt.alloc (.cells #[.int .i64 n, .int .i64 (x 0), .int .i64 (x 1), .int .i64 (x 2), .int .i64 (x 3), .int .i64 (x 4)] 24)
  have Rx : Row (w14.alloc (.cells #[.int .i64 n, .int .i64 (x 0), .int .i64 (x 1), .int .i64 (x 2), .int .i64 (x 3), .int .i64 (x 4)] 24)) w14.heap.size 24 (gC n fun p => (x p : Int)) := row_new w14 [.int .i64 n, .int .i64 (x 0), .int .i64 (x 1), .int .i64 (x 2), .int .i64 (x 3), .int .i64 (x 4)] 24
  have ex14g := ext_alloc' ex14 (.cells #[.int .i64 n, .int .i64 (x 0), .int .i64 (x 1), .int .i64 (x 2), .int .i64 (x 3), .int .i64 (x 4)] 24)
  obtain ⟨sb0, sb1, sb2, sb3, sb4, sb5⟩ := Rb.six
  go_wp2_with fail
  refine (KP2.out _ ex14g).mono ?_
  rintro _ w15 ⟨_, rfl, hb, rfl⟩
  clear sb0 sb1 sb2 sb3 sb4 sb5
  have ex15 := ext_trans ex14g hb
  replace Ra := Ra.ext hb
  replace Rb := Rb.ext hb
  replace Rab := Rab.ext hb
  replace Rba := Rba.ext hb
  replace Rll := Rll.ext hb
  replace Rrr := Rrr.ext hb
  replace Rsl := Rsl.ext hb
  replace Rsm := Rsm.ext hb
  replace Rsu := Rsu.ext hb
  replace Rwh := Rwh.ext hb
  replace Rbb := Rbb.ext hb
  replace Rpt := Rpt.ext hb
  replace Rx := Rx.ext hb
  clear hb
  replace Ra := Ra.alloc (.cells #[.int .i64 n, .int .i64 (y 0), .int .i64 (y 1), .int .i64 (y 2), .int .i64 (y 3), .int .i64 (y 4)] 24)
  replace Rb := Rb.alloc (.cells #[.int .i64 n, .int .i64 (y 0), .int .i64 (y 1), .int .i64 (y 2), .int .i64 (y 3), .int .i64 (y 4)] 24)
  replace Rab := Rab.alloc (.cells #[.int .i64 n, .int .i64 (y 0), .int .i64 (y 1), .int .i64 (y 2), .int .i64 (y 3), .int .i64 (y 4)] 24)
  replace Rba := Rba.alloc (.cells #[.int .i64 n, .int .i64 (y 0), .int .i64 (y 1), .int .i64 (y 2), .int .i64 (y 3), .int .i64 (y 4)] 24)
  replace Rll := Rll.alloc (.cells #[.int .i64 n, .int .i64 (y 0), .int .i64 (y 1), .int .i64 (y 2), .int .i64 (y 3), .int .i64 (y 4)] 24)
  replace Rrr := Rrr.alloc (.cells #[.int .i64 n, .int .i64 (y 0), .int .i64 (y 1), .int .i64 (y 2), .int .i64 (y 3), .int .i64 (y 4)] 24)
  replace Rsl := Rsl.alloc (.cells #[.int .i64 n, .int .i64 (y 0), .int .i64 (y 1), .int .i64 (y 2), .int .i64 (y 3), .int .i64 (y 4)] 24)
  replace Rsm := Rsm.alloc (.cells #[.int .i64 n, .int .i64 (y 0), .int .i64 (y 1), .int .i64 (y 2), .int .i64 (y 3), .int .i64 (y 4)] 24)
  replace Rsu := Rsu.alloc (.cells #[.int .i64 n, .int .i64 (y 0), .int .i64 (y 1), .int .i64 (y 2), .int .i64 (y 3), .int .i64 (y 4)] 24)
  replace Rwh := Rwh.alloc (.cells #[.int .i64 n, .int .i64 (y 0), .int .i64 (y 1), .int .i64 (y 2), .int .i64 (y 3), .int .i64 (y 4)] 24)
  replace Rbb := Rbb.alloc (.cells #[.int .i64 n, .int .i64 (y 0), .int .i64 (y 1), .int .i64 (y 2), .int .i64 (y 3), .int .i64 (y 4)] 24)
  replace Rpt := Rpt.alloc (.cells #[.int .i64 n, .int .i64 (y 0), .int .i64 (y 1), .int .i64 (y 2), .int .i64 (y 3), .int .i64 (y 4)] 24)
  replace Rx := Rx.alloc (.cells #[.int .i64 n, .int .i64 (y 0), .int .i64 (y 1), .int .i64 (y 2), .int .i64 (y 3), .int .i64 (y 4)] 24)
  have Ry : Row (w15.alloc (.cells #[.int .i64 n, .int .i64 (y 0), .int .i64 (y 1), .int .i64 (y 2), .int .i64 (y 3), .int .i64 (y 4)] 24)) w15.heap.size 24 (gC n fun p => (y p : Int)) := row_new w15 [.int .i64 n, .int .i64 (y 0), .int .i64 (y 1), .int .i64 (y 2), .int .i64 (y 3), .int .i64 (y 4)] 24
  have ex15g := ext_alloc' ex15 (.cells #[.int .i64 n, .int .i64 (y 0), .int .i64 (y 1), .int .i64 (y 2), .int .i64 (y 3), .int .i64 (y 4)] 24)
  obtain ⟨sx0, sx1, sx2, sx3, sx4, sx5⟩ := Rx.six
  obtain ⟨sy0, sy1, sy2, sy3, sy4, sy5⟩ := Ry.six
  go_wp2_with fail
  refine (KC8.out _ ex15g).mono ?_
  rintro _ w16 ⟨_, rfl, hb, rfl⟩
  clear sx0 sx1 sx2 sx3 sx4 sx5
  clear sy0 sy1 sy2 sy3 sy4 sy5
  have ex16 := ext_trans ex15g hb
  replace Ra := Ra.ext hb
  replace Rb := Rb.ext hb
  replace Rab := Rab.ext hb
  replace Rba := Rba.ext hb
  replace Rll := Rll.ext hb
  replace Rrr := Rrr.ext hb
  replace Rsl := Rsl.ext hb
  replace Rsm := Rsm.ext hb
  replace Rsu := Rsu.ext hb
  replace Rwh := Rwh.ext hb
  replace Rbb := Rbb.ext hb
  replace Rpt := Rpt.ext hb
  replace Rx := Rx.ext hb
  replace Ry := Ry.ext hb
  clear hb
  replace Ra := Ra.alloc (.cells #[.int .i64 n, .int .i64 (xy 0), .int .i64 (xy 1), .int .i64 (xy 2), .int .i64 (xy 3), .int .i64 (xy 4)] 24)
  replace Rb := Rb.alloc (.cells #[.int .i64 n, .int .i64 (xy 0), .int .i64 (xy 1), .int .i64 (xy 2), .int .i64 (xy 3), .int .i64 (xy 4)] 24)
  replace Rab := Rab.alloc (.cells #[.int .i64 n, .int .i64 (xy 0), .int .i64 (xy 1), .int .i64 (xy 2), .int .i64 (xy 3), .int .i64 (xy 4)] 24)
  replace Rba := Rba.alloc (.cells #[.int .i64 n, .int .i64 (xy 0), .int .i64 (xy 1), .int .i64 (xy 2), .int .i64 (xy 3), .int .i64 (xy 4)] 24)
  replace Rll := Rll.alloc (.cells #[.int .i64 n, .int .i64 (xy 0), .int .i64 (xy 1), .int .i64 (xy 2), .int .i64 (xy 3), .int .i64 (xy 4)] 24)
  replace Rrr := Rrr.alloc (.cells #[.int .i64 n, .int .i64 (xy 0), .int .i64 (xy 1), .int .i64 (xy 2), .int .i64 (xy 3), .int .i64 (xy 4)] 24)
  replace Rsl := Rsl.alloc (.cells #[.int .i64 n, .int .i64 (xy 0), .int .i64 (xy 1), .int .i64 (xy 2), .int .i64 (xy 3), .int .i64 (xy 4)] 24)
  replace Rsm := Rsm.alloc (.cells #[.int .i64 n, .int .i64 (xy 0), .int .i64 (xy 1), .int .i64 (xy 2), .int .i64 (xy 3), .int .i64 (xy 4)] 24)
  replace Rsu := Rsu.alloc (.cells #[.int .i64 n, .int .i64 (xy 0), .int .i64 (xy 1), .int .i64 (xy 2), .int .i64 (xy 3), .int .i64 (xy 4)] 24)
  replace Rwh := Rwh.alloc (.cells #[.int .i64 n, .int .i64 (xy 0), .int .i64 (xy 1), .int .i64 (xy 2), .int .i64 (xy 3), .int .i64 (xy 4)] 24)
  replace Rbb := Rbb.alloc (.cells #[.int .i64 n, .int .i64 (xy 0), .int .i64 (xy 1), .int .i64 (xy 2), .int .i64 (xy 3), .int .i64 (xy 4)] 24)
  replace Rpt := Rpt.alloc (.cells #[.int .i64 n, .int .i64 (xy 0), .int .i64 (xy 1), .int .i64 (xy 2), .int .i64 (xy 3), .int .i64 (xy 4)] 24)
  replace Rx := Rx.alloc (.cells #[.int .i64 n, .int .i64 (xy 0), .int .i64 (xy 1), .int .i64 (xy 2), .int .i64 (xy 3), .int .i64 (xy 4)] 24)
  replace Ry := Ry.alloc (.cells #[.int .i64 n, .int .i64 (xy 0), .int .i64 (xy 1), .int .i64 (xy 2), .int .i64 (xy 3), .int .i64 (xy 4)] 24)
  have Rxy : Row (w16.alloc (.cells #[.int .i64 n, .int .i64 (xy 0), .int .i64 (xy 1), .int .i64 (xy 2), .int .i64 (xy 3), .int .i64 (xy 4)] 24)) w16.heap.size 24 (gC n fun p => (xy p : Int)) := row_new w16 [.int .i64 n, .int .i64 (xy 0), .int .i64 (xy 1), .int .i64 (xy 2), .int .i64 (xy 3), .int .i64 (xy 4)] 24
  have ex16g := ext_alloc' ex16 (.cells #[.int .i64 n, .int .i64 (xy 0), .int .i64 (xy 1), .int .i64 (xy 2), .int .i64 (xy 3), .int .i64 (xy 4)] 24)
  obtain ⟨sab0, sab1, sab2, sab3, sab4, sab5⟩ := Rab.six
  go_wp2_with fail
  refine (KP3.out _ ex16g).mono ?_
  rintro _ w17 ⟨_, rfl, hb, rfl⟩
  clear sab0 sab1 sab2 sab3 sab4 sab5
  have ex17 := ext_trans ex16g hb
  replace Ra := Ra.ext hb
  replace Rb := Rb.ext hb
  replace Rab := Rab.ext hb
  replace Rba := Rba.ext hb
  replace Rll := Rll.ext hb
  replace Rrr := Rrr.ext hb
  replace Rsl := Rsl.ext hb
  replace Rsm := Rsm.ext hb
  replace Rsu := Rsu.ext hb
  replace Rwh := Rwh.ext hb
  replace Rbb := Rbb.ext hb
  replace Rpt := Rpt.ext hb
  replace Rx := Rx.ext hb
  replace Ry := Ry.ext hb
  replace Rxy := Rxy.ext hb
  clear hb
  replace Ra := Ra.alloc (.cells #[.int .i64 n, .int .i64 (mv 0), .int .i64 (mv 1), .int .i64 (mv 2), .int .i64 (mv 3), .int .i64 (mv 4)] 24)
  replace Rb := Rb.alloc (.cells #[.int .i64 n, .int .i64 (mv 0), .int .i64 (mv 1), .int .i64 (mv 2), .int .i64 (mv 3), .int .i64 (mv 4)] 24)
  replace Rab := Rab.alloc (.cells #[.int .i64 n, .int .i64 (mv 0), .int .i64 (mv 1), .int .i64 (mv 2), .int .i64 (mv 3), .int .i64 (mv 4)] 24)
  replace Rba := Rba.alloc (.cells #[.int .i64 n, .int .i64 (mv 0), .int .i64 (mv 1), .int .i64 (mv 2), .int .i64 (mv 3), .int .i64 (mv 4)] 24)
  replace Rll := Rll.alloc (.cells #[.int .i64 n, .int .i64 (mv 0), .int .i64 (mv 1), .int .i64 (mv 2), .int .i64 (mv 3), .int .i64 (mv 4)] 24)
  replace Rrr := Rrr.alloc (.cells #[.int .i64 n, .int .i64 (mv 0), .int .i64 (mv 1), .int .i64 (mv 2), .int .i64 (mv 3), .int .i64 (mv 4)] 24)
  replace Rsl := Rsl.alloc (.cells #[.int .i64 n, .int .i64 (mv 0), .int .i64 (mv 1), .int .i64 (mv 2), .int .i64 (mv 3), .int .i64 (mv 4)] 24)
  replace Rsm := Rsm.alloc (.cells #[.int .i64 n, .int .i64 (mv 0), .int .i64 (mv 1), .int .i64 (mv 2), .int .i64 (mv 3), .int .i64 (mv 4)] 24)
  replace Rsu := Rsu.alloc (.cells #[.int .i64 n, .int .i64 (mv 0), .int .i64 (mv 1), .int .i64 (mv 2), .int .i64 (mv 3), .int .i64 (mv 4)] 24)
  replace Rwh := Rwh.alloc (.cells #[.int .i64 n, .int .i64 (mv 0), .int .i64 (mv 1), .int .i64 (mv 2), .int .i64 (mv 3), .int .i64 (mv 4)] 24)
  replace Rbb := Rbb.alloc (.cells #[.int .i64 n, .int .i64 (mv 0), .int .i64 (mv 1), .int .i64 (mv 2), .int .i64 (mv 3), .int .i64 (mv 4)] 24)
  replace Rpt := Rpt.alloc (.cells #[.int .i64 n, .int .i64 (mv 0), .int .i64 (mv 1), .int .i64 (mv 2), .int .i64 (mv 3), .int .i64 (mv 4)] 24)
  replace Rx := Rx.alloc (.cells #[.int .i64 n, .int .i64 (mv 0), .int .i64 (mv 1), .int .i64 (mv 2), .int .i64 (mv 3), .int .i64 (mv 4)] 24)
  replace Ry := Ry.alloc (.cells #[.int .i64 n, .int .i64 (mv 0), .int .i64 (mv 1), .int .i64 (mv 2), .int .i64 (mv 3), .int .i64 (mv 4)] 24)
  replace Rxy := Rxy.alloc (.cells #[.int .i64 n, .int .i64 (mv 0), .int .i64 (mv 1), .int .i64 (mv 2), .int .i64 (mv 3), .int .i64 (mv 4)] 24)
  have Rmv : Row (w17.alloc (.cells #[.int .i64 n, .int .i64 (mv 0), .int .i64 (mv 1), .int .i64 (mv 2), .int .i64 (mv 3), .int .i64 (mv 4)] 24)) w17.heap.size 24 (gC n fun p => (mv p : Int)) := row_new w17 [.int .i64 n, .int .i64 (mv 0), .int .i64 (mv 1), .int .i64 (mv 2), .int .i64 (mv 3), .int .i64 (mv 4)] 24
  have ex17g := ext_alloc' ex17 (.cells #[.int .i64 n, .int .i64 (mv 0), .int .i64 (mv 1), .int .i64 (mv 2), .int .i64 (mv 3), .int .i64 (mv 4)] 24)
  go_wp2_with fail
  refine (KI.out _ ex17g).mono ?_
  rintro _ w18 ⟨_, rfl, hb, u9, rfl, hI9⟩
  have ex18 := ext_trans ex17g hb
  replace Ra := Ra.ext hb
  replace Rb := Rb.ext hb
  replace Rab := Rab.ext hb
  replace Rba := Rba.ext hb
  replace Rll := Rll.ext hb
  replace Rrr := Rrr.ext hb
  replace Rsl := Rsl.ext hb
  replace Rsm := Rsm.ext hb
  replace Rsu := Rsu.ext hb
  replace Rwh := Rwh.ext hb
  replace Rbb := Rbb.ext hb
  replace Rpt := Rpt.ext hb
  replace Rx := Rx.ext hb
  replace Ry := Ry.ext hb
  replace Rxy := Rxy.ext hb
  replace Rmv := Rmv.ext hb
  clear hb
  obtain ⟨ba9, bc9, rfl, _⟩ := hI9.form
  obtain ⟨sxy0, sxy1, sxy2, sxy3, sxy4, sxy5⟩ := Rxy.six
  obtain ⟨smv0, smv1, smv2, smv3, smv4, smv5⟩ := Rmv.six
  obtain ⟨sx0, sx1, sx2, sx3, sx4, sx5⟩ := Rx.six
  go_wp2_with fail
  refine (KP4.out _ _ _ hI9).mono ?_
  rintro _ w19 ⟨_, rfl, hb, rfl⟩
  clear sxy0 sxy1 sxy2 sxy3 sxy4 sxy5
  clear smv0 smv1 smv2 smv3 smv4 smv5
  clear sx0 sx1 sx2 sx3 sx4 sx5
  have ex19 := ext_trans ex18 hb
  replace Ra := Ra.ext hb
  replace Rb := Rb.ext hb
  replace Rab := Rab.ext hb
  replace Rba := Rba.ext hb
  replace Rll := Rll.ext hb
  replace Rrr := Rrr.ext hb
  replace Rsl := Rsl.ext hb
  replace Rsm := Rsm.ext hb
  replace Rsu := Rsu.ext hb
  replace Rwh := Rwh.ext hb
  replace Rbb := Rbb.ext hb
  replace Rpt := Rpt.ext hb
  replace Rx := Rx.ext hb
  replace Ry := Ry.ext hb
  replace Rxy := Rxy.ext hb
  replace Rmv := Rmv.ext hb
  clear hb hI9
  replace Ra := Ra.alloc (.cells #[.int .i64 n, .int .i64 (ag 0), .int .i64 (ag 1), .int .i64 (ag 2), .int .i64 (ag 3), .int .i64 (ag 4)] 24)
  replace Rb := Rb.alloc (.cells #[.int .i64 n, .int .i64 (ag 0), .int .i64 (ag 1), .int .i64 (ag 2), .int .i64 (ag 3), .int .i64 (ag 4)] 24)
  replace Rab := Rab.alloc (.cells #[.int .i64 n, .int .i64 (ag 0), .int .i64 (ag 1), .int .i64 (ag 2), .int .i64 (ag 3), .int .i64 (ag 4)] 24)
  replace Rba := Rba.alloc (.cells #[.int .i64 n, .int .i64 (ag 0), .int .i64 (ag 1), .int .i64 (ag 2), .int .i64 (ag 3), .int .i64 (ag 4)] 24)
  replace Rll := Rll.alloc (.cells #[.int .i64 n, .int .i64 (ag 0), .int .i64 (ag 1), .int .i64 (ag 2), .int .i64 (ag 3), .int .i64 (ag 4)] 24)
  replace Rrr := Rrr.alloc (.cells #[.int .i64 n, .int .i64 (ag 0), .int .i64 (ag 1), .int .i64 (ag 2), .int .i64 (ag 3), .int .i64 (ag 4)] 24)
  replace Rsl := Rsl.alloc (.cells #[.int .i64 n, .int .i64 (ag 0), .int .i64 (ag 1), .int .i64 (ag 2), .int .i64 (ag 3), .int .i64 (ag 4)] 24)
  replace Rsm := Rsm.alloc (.cells #[.int .i64 n, .int .i64 (ag 0), .int .i64 (ag 1), .int .i64 (ag 2), .int .i64 (ag 3), .int .i64 (ag 4)] 24)
  replace Rsu := Rsu.alloc (.cells #[.int .i64 n, .int .i64 (ag 0), .int .i64 (ag 1), .int .i64 (ag 2), .int .i64 (ag 3), .int .i64 (ag 4)] 24)
  replace Rwh := Rwh.alloc (.cells #[.int .i64 n, .int .i64 (ag 0), .int .i64 (ag 1), .int .i64 (ag 2), .int .i64 (ag 3), .int .i64 (ag 4)] 24)
  replace Rbb := Rbb.alloc (.cells #[.int .i64 n, .int .i64 (ag 0), .int .i64 (ag 1), .int .i64 (ag 2), .int .i64 (ag 3), .int .i64 (ag 4)] 24)
  replace Rpt := Rpt.alloc (.cells #[.int .i64 n, .int .i64 (ag 0), .int .i64 (ag 1), .int .i64 (ag 2), .int .i64 (ag 3), .int .i64 (ag 4)] 24)
  replace Rx := Rx.alloc (.cells #[.int .i64 n, .int .i64 (ag 0), .int .i64 (ag 1), .int .i64 (ag 2), .int .i64 (ag 3), .int .i64 (ag 4)] 24)
  replace Ry := Ry.alloc (.cells #[.int .i64 n, .int .i64 (ag 0), .int .i64 (ag 1), .int .i64 (ag 2), .int .i64 (ag 3), .int .i64 (ag 4)] 24)
  replace Rxy := Rxy.alloc (.cells #[.int .i64 n, .int .i64 (ag 0), .int .i64 (ag 1), .int .i64 (ag 2), .int .i64 (ag 3), .int .i64 (ag 4)] 24)
  replace Rmv := Rmv.alloc (.cells #[.int .i64 n, .int .i64 (ag 0), .int .i64 (ag 1), .int .i64 (ag 2), .int .i64 (ag 3), .int .i64 (ag 4)] 24)
  have Rag : Row (w19.alloc (.cells #[.int .i64 n, .int .i64 (ag 0), .int .i64 (ag 1), .int .i64 (ag 2), .int .i64 (ag 3), .int .i64 (ag 4)] 24)) w19.heap.size 24 (gC n fun p => (ag p : Int)) := row_new w19 [.int .i64 n, .int .i64 (ag 0), .int .i64 (ag 1), .int .i64 (ag 2), .int .i64 (ag 3), .int .i64 (ag 4)] 24
  have ex19g := ext_alloc' ex19 (.cells #[.int .i64 n, .int .i64 (ag 0), .int .i64 (ag 1), .int .i64 (ag 2), .int .i64 (ag 3), .int .i64 (ag 4)] 24)
  obtain ⟨sa0, sa1, sa2, sa3, sa4, sa5⟩ := Ra.six
  go_wp2_with fail
  refine (KK1.out _).mono ?_
  rintro _ w20 ⟨_, rfl, hb, rfl⟩
  clear sa0 sa1 sa2 sa3 sa4 sa5
  have ex20 := ext_trans ex19g hb
  replace Ra := Ra.ext hb
  replace Rb := Rb.ext hb
  replace Rab := Rab.ext hb
  replace Rba := Rba.ext hb
  replace Rll := Rll.ext hb
  replace Rrr := Rrr.ext hb
  replace Rsl := Rsl.ext hb
  replace Rsm := Rsm.ext hb
  replace Rsu := Rsu.ext hb
  replace Rwh := Rwh.ext hb
  replace Rbb := Rbb.ext hb
  replace Rpt := Rpt.ext hb
  replace Rx := Rx.ext hb
  replace Ry := Ry.ext hb
  replace Rxy := Rxy.ext hb
  replace Rmv := Rmv.ext hb
  replace Rag := Rag.ext hb
  clear hb
  obtain ⟨sx0, sx1, sx2, sx3, sx4, sx5⟩ := Rx.six
  go_wp2_with fail
  refine (KK2.out _).mono ?_
  rintro _ w21 ⟨_, rfl, hb, rfl⟩
  clear sx0 sx1 sx2 sx3 sx4 sx5
  have ex21 := ext_trans ex20 hb
  replace Ra := Ra.ext hb
  replace Rb := Rb.ext hb
  replace Rab := Rab.ext hb
  replace Rba := Rba.ext hb
  replace Rll := Rll.ext hb
  replace Rrr := Rrr.ext hb
  replace Rsl := Rsl.ext hb
  replace Rsm := Rsm.ext hb
  replace Rsu := Rsu.ext hb
  replace Rwh := Rwh.ext hb
  replace Rbb := Rbb.ext hb
  replace Rpt := Rpt.ext hb
  replace Rx := Rx.ext hb
  replace Ry := Ry.ext hb
  replace Rxy := Rxy.ext hb
  replace Rmv := Rmv.ext hb
  replace Rag := Rag.ext hb
  clear hb
  go_wp2_with fail
  refine (KT.out _ ex21).mono ?_
  rintro _ w22 ⟨_, rfl, hb, rfl⟩
  have ex22 := ext_trans ex21 hb
  replace Ra := Ra.ext hb
  replace Rb := Rb.ext hb
  replace Rab := Rab.ext hb
  replace Rba := Rba.ext hb
  replace Rll := Rll.ext hb
  replace Rrr := Rrr.ext hb
  replace Rsl := Rsl.ext hb
  replace Rsm := Rsm.ext hb
  replace Rsu := Rsu.ext hb
  replace Rwh := Rwh.ext hb
  replace Rbb := Rbb.ext hb
  replace Rpt := Rpt.ext hb
  replace Rx := Rx.ext hb
  replace Ry := Ry.ext hb
  replace Rxy := Rxy.ext hb
  replace Rmv := Rmv.ext hb
  replace Rag := Rag.ext hb
  clear hb
  obtain ⟨sag0, sag1, sag2, sag3, sag4, sag5⟩ := Rag.six
  obtain ⟨sa0, sa1, sa2, sa3, sa4, sa5⟩ := Ra.six
  go_wp2
  go_ret
  exact .mk ex22 rfl
theorem walkTopProductsMove {S : Nat → Prop} {w : World} (TB : Tab w) (na : Int) (fa : Nat → Int) (nb : Int) (fb : Nat → Int) {v : Value} {l : List Int} (hv : Ints S w v l) :
    Calls Tryd.prog 4 #[gV na fa, gV nb fb, v] w (Post w fun _ r => r = .bool true) := by
  by_cases h : ∀ i, i < [(na, fa), (nb, fb)].length → okG [(na, fa), (nb, fb)] i
  · obtain ⟨⟨⟨n, a, rfl, HA, ea⟩, _⟩, ⟨n2, b, e2, HB, eb⟩, q2⟩ := (gs2 _ _ _ _ _).1 h
    have e2' : nb = n2 := e2
    have q2' : nb = n := q2
    obtain rfl : n2 = n := by omega
    have ea' : ∀ p, p < 5 → fa p = (a p : Int) := ea
    have eb' : ∀ p, p < 5 → fb p = (b p : Int) := eb
    rw [q2', gV_congr ea', gV_congr eb']
    by_cases hn : l.length = n2
    · by_cases hp : IsP l
      · obtain ⟨pl, rfl, H⟩ := hp
        exact move_ok TB HA HB hv H (by simpa using hn)
      · exact move_bad3 TB HA HB hv hn hp
    · exact move_bad2 TB HA HB hv hn
  · exact move_bad1 TB v h
end Go.Proofs.YtmlgbaogkbfklaaDoor
