/- The law of unions of graphs: its walk. -/
import Derived.Test.YtmlgbaogkbfklaaDoorGrM
namespace Go.Proofs.YtmlgbaogkbfklaaDoor
set_option linter.unusedVariables false
open Go.RowKit
attribute [local go_sem ↓] Go.wp_at_zero Go.wp_at_succ

theorem gs3 (na nb nc : Int) (fa fb fc : Nat → Int) (P : Nat → Prop) : (∀ i, i < [(na, fa), (nb, fb), (nc, fc)].length → P i) ↔ P 0 ∧ P 1 ∧ P 2 := by
  constructor
  · intro h; exact ⟨h 0 (by simp), h 1 (by simp), h 2 (by simp)⟩
  · rintro ⟨h0, h1, h2⟩ i hi
    have : i = 0 ∨ i = 1 ∨ i = 2 := by simp at hi; omega
    rcases this with rfl | rfl | rfl <;> assumption
set_option maxRecDepth 100000 in
set_option maxHeartbeats 4000000 in
theorem ordered_bad {w : World} (TB : Tab w) {na nb nc : Int} {fa fb fc : Nat → Int} (h : ¬ ∀ i, i < [(na, fa), (nb, fb), (nc, fc)].length → okG [(na, fa), (nb, fb), (nc, fc)] i) :
    Calls Tryd.prog 3 #[gV na fa, gV nb fb, gV nc fc] w (Post w fun _ r => r = .bool true) := by
  unfold gV
  have Ra : Row (w.alloc (.cells #[.int .i64 na, .int .i64 (fa 0), .int .i64 (fa 1), .int .i64 (fa 2), .int .i64 (fa 3), .int .i64 (fa 4)] 24)) (w).heap.size 24 (gC na fa) := row_new _ _ 24
  try simp only [World.size_alloc] at Ra
  replace Ra := Ra.alloc (.cells #[.int .i64 nb, .int .i64 (fb 0), .int .i64 (fb 1), .int .i64 (fb 2), .int .i64 (fb 3), .int .i64 (fb 4)] 24)
  have Rb : Row ((w.alloc (.cells #[.int .i64 na, .int .i64 (fa 0), .int .i64 (fa 1), .int .i64 (fa 2), .int .i64 (fa 3), .int .i64 (fa 4)] 24)).alloc (.cells #[.int .i64 nb, .int .i64 (fb 0), .int .i64 (fb 1), .int .i64 (fb 2), .int .i64 (fb 3), .int .i64 (fb 4)] 24)) ((w.alloc (.cells #[.int .i64 na, .int .i64 (fa 0), .int .i64 (fa 1), .int .i64 (fa 2), .int .i64 (fa 3), .int .i64 (fa 4)] 24))).heap.size 24 (gC nb fb) := row_new _ _ 24
  try simp only [World.size_alloc] at Rb
  replace Ra := Ra.alloc (.cells #[.int .i64 nc, .int .i64 (fc 0), .int .i64 (fc 1), .int .i64 (fc 2), .int .i64 (fc 3), .int .i64 (fc 4)] 24)
  replace Rb := Rb.alloc (.cells #[.int .i64 nc, .int .i64 (fc 0), .int .i64 (fc 1), .int .i64 (fc 2), .int .i64 (fc 3), .int .i64 (fc 4)] 24)
  have Rc : Row (((w.alloc (.cells #[.int .i64 na, .int .i64 (fa 0), .int .i64 (fa 1), .int .i64 (fa 2), .int .i64 (fa 3), .int .i64 (fa 4)] 24)).alloc (.cells #[.int .i64 nb, .int .i64 (fb 0), .int .i64 (fb 1), .int .i64 (fb 2), .int .i64 (fb 3), .int .i64 (fb 4)] 24)).alloc (.cells #[.int .i64 nc, .int .i64 (fc 0), .int .i64 (fc 1), .int .i64 (fc 2), .int .i64 (fc 3), .int .i64 (fc 4)] 24)) (((w.alloc (.cells #[.int .i64 na, .int .i64 (fa 0), .int .i64 (fa 1), .int .i64 (fa 2), .int .i64 (fa 3), .int .i64 (fa 4)] 24)).alloc (.cells #[.int .i64 nb, .int .i64 (fb 0), .int .i64 (fb 1), .int .i64 (fb 2), .int .i64 (fb 3), .int .i64 (fb 4)] 24))).heap.size 24 (gC nc fc) := row_new _ _ 24
  try simp only [World.size_alloc] at Rc
  have ex0 := ext_alloc' (ext_alloc' (ext_alloc w (.cells #[.int .i64 na, .int .i64 (fa 0), .int .i64 (fa 1), .int .i64 (fa 2), .int .i64 (fa 3), .int .i64 (fa 4)] 24)) (.cells #[.int .i64 nb, .int .i64 (fb 0), .int .i64 (fb 1), .int .i64 (fb 2), .int .i64 (fb 3), .int .i64 (fb 4)] 24)) (.cells #[.int .i64 nc, .int .i64 (fc 0), .int .i64 (fc 1), .int .i64 (fc 2), .int .i64 (fc 3), .int .i64 (fc 4)] 24)
  have KA := Lib.hid (awake_calls (TB.ext ex0))
  go_enter Tryd.func3, Tryd.ntmps3
  go_wp2_with fail
  refine (KA.out).mono ?_
  rintro _ w1 ⟨_, rfl, hb, rfl⟩
  have ex1 := ext_trans ex0 hb
  replace Ra := Ra.ext hb
  replace Rb := Rb.ext hb
  replace Rc := Rc.ext hb
  clear hb
  clear KA
  have RS : Row (w1.alloc (.cells #[.int .i64 na, .int .i64 (fa 0), .int .i64 (fa 1), .int .i64 (fa 2), .int .i64 (fa 3), .int .i64 (fa 4), .int .i64 nb, .int .i64 (fb 0), .int .i64 (fb 1), .int .i64 (fb 2), .int .i64 (fb 3), .int .i64 (fb 4), .int .i64 nc, .int .i64 (fc 0), .int .i64 (fc 1), .int .i64 (fc 2), .int .i64 (fc 3), .int .i64 (fc 4)] 24)) w1.heap.size 24 (gsC [(na, fa), (nb, fb), (nc, fc)]) := row_new w1 _ 24
  have KG := Lib.hid (caseGraphs_calls RS (by simp) (by simp))
  have ex1g := ext_alloc' ex1 (.cells #[.int .i64 na, .int .i64 (fa 0), .int .i64 (fa 1), .int .i64 (fa 2), .int .i64 (fa 3), .int .i64 (fa 4), .int .i64 nb, .int .i64 (fb 0), .int .i64 (fb 1), .int .i64 (fb 2), .int .i64 (fb 3), .int .i64 (fb 4), .int .i64 nc, .int .i64 (fc 0), .int .i64 (fc 1), .int .i64 (fc 2), .int .i64 (fc 3), .int .i64 (fc 4)] 24)
  obtain ⟨sa0, sa1, sa2, sa3, sa4, sa5⟩ := Ra.six
  obtain ⟨sb0, sb1, sb2, sb3, sb4, sb5⟩ := Rb.six
  obtain ⟨sc0, sc1, sc2, sc3, sc4, sc5⟩ := Rc.six
  clear RS
  go_wp2_with fail
  clear sa0 sa1 sa2 sa3 sa4 sa5
  clear sb0 sb1 sb2 sb3 sb4 sb5
  clear sc0 sc1 sc2 sc3 sc4 sc5
  replace Ra := Ra.alloc (.cells #[.int .i64 na, .int .i64 (fa 0), .int .i64 (fa 1), .int .i64 (fa 2), .int .i64 (fa 3), .int .i64 (fa 4), .int .i64 nb, .int .i64 (fb 0), .int .i64 (fb 1), .int .i64 (fb 2), .int .i64 (fb 3), .int .i64 (fb 4), .int .i64 nc, .int .i64 (fc 0), .int .i64 (fc 1), .int .i64 (fc 2), .int .i64 (fc 3), .int .i64 (fc 4)] 24)
  replace Rb := Rb.alloc (.cells #[.int .i64 na, .int .i64 (fa 0), .int .i64 (fa 1), .int .i64 (fa 2), .int .i64 (fa 3), .int .i64 (fa 4), .int .i64 nb, .int .i64 (fb 0), .int .i64 (fb 1), .int .i64 (fb 2), .int .i64 (fb 3), .int .i64 (fb 4), .int .i64 nc, .int .i64 (fc 0), .int .i64 (fc 1), .int .i64 (fc 2), .int .i64 (fc 3), .int .i64 (fc 4)] 24)
  replace Rc := Rc.alloc (.cells #[.int .i64 na, .int .i64 (fa 0), .int .i64 (fa 1), .int .i64 (fa 2), .int .i64 (fa 3), .int .i64 (fa 4), .int .i64 nb, .int .i64 (fb 0), .int .i64 (fb 1), .int .i64 (fb 2), .int .i64 (fb 3), .int .i64 (fb 4), .int .i64 nc, .int .i64 (fc 0), .int .i64 (fc 1), .int .i64 (fc 2), .int .i64 (fc 3), .int .i64 (fc 4)] 24)
  refine KG.out.mono ?_
  rintro _ w2 ⟨_, rfl, hb, b, rfl, hiff⟩
  have ex2 := ext_trans ex1g hb
  replace Ra := Ra.ext hb
  replace Rb := Rb.ext hb
  replace Rc := Rc.ext hb
  clear hb KG
  have hbf : b = false := by
    cases b with
    | false => rfl
    | true => exact absurd (hiff.1 rfl) h
  subst hbf
  clear h hiff
  go_wp2
  go_ret
  exact .mk ex2 rfl
set_option maxRecDepth 100000 in
set_option maxHeartbeats 8000000 in
theorem ordered_ok {w : World} (TB : Tab w) {n : Nat} {a b c : Nat → Nat} (HA : GOK n a) (HB : GOK n b) (HC : GOK n c) :
    Calls Tryd.prog 3 #[hV n a, hV n b, hV n c] w (Post w fun _ r => r = .bool true) := by
  have Hab := gok_or HA HB
  have Hba := gok_or HB HA
  have Hbc := gok_or HB HC
  have E1 := equal_hV (n := n) (a := orG n a b) (b := orG n b a) (r := true) ⟨fun _ p _ => by rw [or_comm'], fun _ => rfl⟩
  have E2 := equal_hV (n := n) (a := orG n a a) (b := a) (r := true) ⟨fun _ p hp => or_self' HA p hp, fun _ => rfl⟩
  have E3 := equal_hV (n := n) (a := orG n (orG n a b) c) (b := orG n a (orG n b c)) (r := true) ⟨fun _ p _ => by rw [or_assoc'], fun _ => rfl⟩
  have HI1 := Lib.hid (inside_or HA HB)
  have HI2 := Lib.hid (inside_left (b := b) HA)
  have HI3 := Lib.hid (inside_both (c := c) HA HB)
  have KU1 : Hid (∀ W, Calls Tryd.prog 8 #[hV n a, hV n b] W (Post W fun _ r => r = .tuple #[hV n (orG n a b), .int .i64 0])) := Lib.hid fun W => union_calls W HA HB
  have KU2 : Hid (∀ W, Calls Tryd.prog 8 #[hV n b, hV n a] W (Post W fun _ r => r = .tuple #[hV n (orG n b a), .int .i64 0])) := Lib.hid fun W => union_calls W HB HA
  have KU3 : Hid (∀ W, Calls Tryd.prog 8 #[hV n b, hV n c] W (Post W fun _ r => r = .tuple #[hV n (orG n b c), .int .i64 0])) := Lib.hid fun W => union_calls W HB HC
  have KU4 : Hid (∀ W, Calls Tryd.prog 8 #[hV n a, hV n a] W (Post W fun _ r => r = .tuple #[hV n (orG n a a), .int .i64 0])) := Lib.hid fun W => union_calls W HA HA
  have KU5 : Hid (∀ W, Calls Tryd.prog 8 #[hV n (orG n a b), hV n c] W (Post W fun _ r => r = .tuple #[hV n (orG n (orG n a b) c), .int .i64 0])) := Lib.hid fun W => union_calls W Hab HC
  have KU6 : Hid (∀ W, Calls Tryd.prog 8 #[hV n a, hV n (orG n b c)] W (Post W fun _ r => r = .tuple #[hV n (orG n a (orG n b c)), .int .i64 0])) := Lib.hid fun W => union_calls W HA Hbc
  have KI1 := Lib.hid fun W => inside_calls W HA HB
  have KI2 := Lib.hid fun W => inside_calls W HA Hab
  have KI3 := Lib.hid fun W => inside_calls W HA HC
  have KI4 := Lib.hid fun W => inside_calls W HB HC
  have KI5 := Lib.hid fun W => inside_calls W Hab HC
  have HE4 := Lib.hid fun r (h : r = true ↔ ∀ p, p < 5 → orG n a b p = b p) => equal_hV (n := n) (a := orG n a b) (b := b) (r := r) h
  have EG1 : Tryd.prog.eqGuardType Tryd.prog.depth 24 = false := by kernel_rfl
  have OKG : Hid (∀ i, i < [((n : Int), fun p => (a p : Int)), ((n : Int), fun p => (b p : Int)), ((n : Int), fun p => (c p : Int))].length → okG [((n : Int), fun p => (a p : Int)), ((n : Int), fun p => (b p : Int)), ((n : Int), fun p => (c p : Int))] i) :=
    Lib.hid ((gs3 _ _ _ _ _ _ _).2 ⟨⟨⟨n, a, rfl, HA, fun _ _ => rfl⟩, rfl⟩, ⟨⟨n, b, rfl, HB, fun _ _ => rfl⟩, rfl⟩, ⟨⟨n, c, rfl, HC, fun _ _ => rfl⟩, rfl⟩⟩)
  obtain ⟨ab, hab⟩ : ∃ x, x = orG n a b := ⟨_, rfl⟩
  obtain ⟨ba, hba⟩ : ∃ x, x = orG n b a := ⟨_, rfl⟩
  obtain ⟨bc, hbc⟩ : ∃ x, x = orG n b c := ⟨_, rfl⟩
  obtain ⟨aa, haa⟩ : ∃ x, x = orG n a a := ⟨_, rfl⟩
  rw [← hab] at E1 E3 HI1 HI2 HI3 KU1 KU5 KI2 KI5 HE4
  rw [← hba] at E1 KU2
  rw [← hbc] at E3 KU3 KU6
  rw [← haa] at E2 KU4
  obtain ⟨ll, hll⟩ : ∃ x, x = orG n ab c := ⟨_, rfl⟩
  obtain ⟨rr, hrr⟩ : ∃ x, x = orG n a bc := ⟨_, rfl⟩
  rw [← hll] at E3 KU5
  rw [← hrr] at E3 KU6
  clear hab hba hbc haa hll hrr Hab Hba Hbc HA HB HC
  unfold hV gV at E1 E2 E3 HE4 KU1 KU2 KU3 KU4 KU5 KU6 KI1 KI2 KI3 KI4 KI5
  unfold hV
  unfold gV
  have Ra : Row (w.alloc (.cells #[.int .i64 n, .int .i64 (a 0), .int .i64 (a 1), .int .i64 (a 2), .int .i64 (a 3), .int .i64 (a 4)] 24)) (w).heap.size 24 (gC n fun p => (a p : Int)) := row_new _ _ 24
  try simp only [World.size_alloc] at Ra
  replace Ra := Ra.alloc (.cells #[.int .i64 n, .int .i64 (b 0), .int .i64 (b 1), .int .i64 (b 2), .int .i64 (b 3), .int .i64 (b 4)] 24)
  have Rb : Row ((w.alloc (.cells #[.int .i64 n, .int .i64 (a 0), .int .i64 (a 1), .int .i64 (a 2), .int .i64 (a 3), .int .i64 (a 4)] 24)).alloc (.cells #[.int .i64 n, .int .i64 (b 0), .int .i64 (b 1), .int .i64 (b 2), .int .i64 (b 3), .int .i64 (b 4)] 24)) ((w.alloc (.cells #[.int .i64 n, .int .i64 (a 0), .int .i64 (a 1), .int .i64 (a 2), .int .i64 (a 3), .int .i64 (a 4)] 24))).heap.size 24 (gC n fun p => (b p : Int)) := row_new _ _ 24
  try simp only [World.size_alloc] at Rb
  replace Ra := Ra.alloc (.cells #[.int .i64 n, .int .i64 (c 0), .int .i64 (c 1), .int .i64 (c 2), .int .i64 (c 3), .int .i64 (c 4)] 24)
  replace Rb := Rb.alloc (.cells #[.int .i64 n, .int .i64 (c 0), .int .i64 (c 1), .int .i64 (c 2), .int .i64 (c 3), .int .i64 (c 4)] 24)
  have Rc : Row (((w.alloc (.cells #[.int .i64 n, .int .i64 (a 0), .int .i64 (a 1), .int .i64 (a 2), .int .i64 (a 3), .int .i64 (a 4)] 24)).alloc (.cells #[.int .i64 n, .int .i64 (b 0), .int .i64 (b 1), .int .i64 (b 2), .int .i64 (b 3), .int .i64 (b 4)] 24)).alloc (.cells #[.int .i64 n, .int .i64 (c 0), .int .i64 (c 1), .int .i64 (c 2), .int .i64 (c 3), .int .i64 (c 4)] 24)) (((w.alloc (.cells #[.int .i64 n, .int .i64 (a 0), .int .i64 (a 1), .int .i64 (a 2), .int .i64 (a 3), .int .i64 (a 4)] 24)).alloc (.cells #[.int .i64 n, .int .i64 (b 0), .int .i64 (b 1), .int .i64 (b 2), .int .i64 (b 3), .int .i64 (b 4)] 24))).heap.size 24 (gC n fun p => (c p : Int)) := row_new _ _ 24
  try simp only [World.size_alloc] at Rc
  have ex0 := ext_alloc' (ext_alloc' (ext_alloc w (.cells #[.int .i64 n, .int .i64 (a 0), .int .i64 (a 1), .int .i64 (a 2), .int .i64 (a 3), .int .i64 (a 4)] 24)) (.cells #[.int .i64 n, .int .i64 (b 0), .int .i64 (b 1), .int .i64 (b 2), .int .i64 (b 3), .int .i64 (b 4)] 24)) (.cells #[.int .i64 n, .int .i64 (c 0), .int .i64 (c 1), .int .i64 (c 2), .int .i64 (c 3), .int .i64 (c 4)] 24)
  have KA := Lib.hid (awake_calls (TB.ext ex0))
  go_enter Tryd.func3, Tryd.ntmps3
  go_wp2_with fail
  refine (KA.out).mono ?_
  rintro _ w1 ⟨_, rfl, hb, rfl⟩
  have ex1 := ext_trans ex0 hb
  replace Ra := Ra.ext hb
  replace Rb := Rb.ext hb
  replace Rc := Rc.ext hb
  clear hb
  clear KA
  have RS : Row (w1.alloc (.cells #[.int .i64 n, .int .i64 (a 0), .int .i64 (a 1), .int .i64 (a 2), .int .i64 (a 3), .int .i64 (a 4), .int .i64 n, .int .i64 (b 0), .int .i64 (b 1), .int .i64 (b 2), .int .i64 (b 3), .int .i64 (b 4), .int .i64 n, .int .i64 (c 0), .int .i64 (c 1), .int .i64 (c 2), .int .i64 (c 3), .int .i64 (c 4)] 24)) w1.heap.size 24 (gsC [((n : Int), fun p => (a p : Int)), ((n : Int), fun p => (b p : Int)), ((n : Int), fun p => (c p : Int))]) := row_new w1 _ 24
  have KG := Lib.hid (caseGraphs_calls RS (by simp) (by simp))
  have ex1g := ext_alloc' ex1 (.cells #[.int .i64 n, .int .i64 (a 0), .int .i64 (a 1), .int .i64 (a 2), .int .i64 (a 3), .int .i64 (a 4), .int .i64 n, .int .i64 (b 0), .int .i64 (b 1), .int .i64 (b 2), .int .i64 (b 3), .int .i64 (b 4), .int .i64 n, .int .i64 (c 0), .int .i64 (c 1), .int .i64 (c 2), .int .i64 (c 3), .int .i64 (c 4)] 24)
  obtain ⟨sa0, sa1, sa2, sa3, sa4, sa5⟩ := Ra.six
  obtain ⟨sb0, sb1, sb2, sb3, sb4, sb5⟩ := Rb.six
  obtain ⟨sc0, sc1, sc2, sc3, sc4, sc5⟩ := Rc.six
  clear RS
  go_wp2_with fail
  clear sa0 sa1 sa2 sa3 sa4 sa5
  clear sb0 sb1 sb2 sb3 sb4 sb5
  clear sc0 sc1 sc2 sc3 sc4 sc5
  replace Ra := Ra.alloc (.cells #[.int .i64 n, .int .i64 (a 0), .int .i64 (a 1), .int .i64 (a 2), .int .i64 (a 3), .int .i64 (a 4), .int .i64 n, .int .i64 (b 0), .int .i64 (b 1), .int .i64 (b 2), .int .i64 (b 3), .int .i64 (b 4), .int .i64 n, .int .i64 (c 0), .int .i64 (c 1), .int .i64 (c 2), .int .i64 (c 3), .int .i64 (c 4)] 24)
  replace Rb := Rb.alloc (.cells #[.int .i64 n, .int .i64 (a 0), .int .i64 (a 1), .int .i64 (a 2), .int .i64 (a 3), .int .i64 (a 4), .int .i64 n, .int .i64 (b 0), .int .i64 (b 1), .int .i64 (b 2), .int .i64 (b 3), .int .i64 (b 4), .int .i64 n, .int .i64 (c 0), .int .i64 (c 1), .int .i64 (c 2), .int .i64 (c 3), .int .i64 (c 4)] 24)
  replace Rc := Rc.alloc (.cells #[.int .i64 n, .int .i64 (a 0), .int .i64 (a 1), .int .i64 (a 2), .int .i64 (a 3), .int .i64 (a 4), .int .i64 n, .int .i64 (b 0), .int .i64 (b 1), .int .i64 (b 2), .int .i64 (b 3), .int .i64 (b 4), .int .i64 n, .int .i64 (c 0), .int .i64 (c 1), .int .i64 (c 2), .int .i64 (c 3), .int .i64 (c 4)] 24)
  refine KG.out.mono ?_
  rintro _ w2 ⟨_, rfl, hb, b, rfl, hiff⟩
  have ex2 := ext_trans ex1g hb
  replace Ra := Ra.ext hb
  replace Rb := Rb.ext hb
  replace Rc := Rc.ext hb
  clear hb KG
  have hbt := hiff.2 OKG.out
  subst hbt
  clear hiff OKG
  obtain ⟨sa0, sa1, sa2, sa3, sa4, sa5⟩ := Ra.six
  obtain ⟨sb0, sb1, sb2, sb3, sb4, sb5⟩ := Rb.six
  go_wp2_with fail
  refine (KU1.out _).mono ?_
  rintro _ w3 ⟨_, rfl, hb, rfl⟩
  clear sa0 sa1 sa2 sa3 sa4 sa5
  clear sb0 sb1 sb2 sb3 sb4 sb5
  have ex3 := ext_trans ex2 hb
  replace Ra := Ra.ext hb
  replace Rb := Rb.ext hb
  replace Rc := Rc.ext hb
  clear hb
  replace Ra := Ra.alloc (.cells #[.int .i64 n, .int .i64 (ab 0), .int .i64 (ab 1), .int .i64 (ab 2), .int .i64 (ab 3), .int .i64 (ab 4)] 24)
  replace Rb := Rb.alloc (.cells #[.int .i64 n, .int .i64 (ab 0), .int .i64 (ab 1), .int .i64 (ab 2), .int .i64 (ab 3), .int .i64 (ab 4)] 24)
  replace Rc := Rc.alloc (.cells #[.int .i64 n, .int .i64 (ab 0), .int .i64 (ab 1), .int .i64 (ab 2), .int .i64 (ab 3), .int .i64 (ab 4)] 24)
  have Rab : Row (w3.alloc (.cells #[.int .i64 n, .int .i64 (ab 0), .int .i64 (ab 1), .int .i64 (ab 2), .int .i64 (ab 3), .int .i64 (ab 4)] 24)) w3.heap.size 24 (gC n fun p => (ab p : Int)) := row_new w3 [.int .i64 n, .int .i64 (ab 0), .int .i64 (ab 1), .int .i64 (ab 2), .int .i64 (ab 3), .int .i64 (ab 4)] 24
  have ex3g := ext_alloc' ex3 (.cells #[.int .i64 n, .int .i64 (ab 0), .int .i64 (ab 1), .int .i64 (ab 2), .int .i64 (ab 3), .int .i64 (ab 4)] 24)
  obtain ⟨sa0, sa1, sa2, sa3, sa4, sa5⟩ := Ra.six
  obtain ⟨sb0, sb1, sb2, sb3, sb4, sb5⟩ := Rb.six
  go_wp2_with fail
  refine (KU2.out _).mono ?_
  rintro _ w4 ⟨_, rfl, hb, rfl⟩
  clear sa0 sa1 sa2 sa3 sa4 sa5
  clear sb0 sb1 sb2 sb3 sb4 sb5
  have ex4 := ext_trans ex3g hb
  replace Ra := Ra.ext hb
  replace Rb := Rb.ext hb
  replace Rc := Rc.ext hb
  replace Rab := Rab.ext hb
  clear hb
  replace Ra := Ra.alloc (.cells #[.int .i64 n, .int .i64 (ba 0), .int .i64 (ba 1), .int .i64 (ba 2), .int .i64 (ba 3), .int .i64 (ba 4)] 24)
  replace Rb := Rb.alloc (.cells #[.int .i64 n, .int .i64 (ba 0), .int .i64 (ba 1), .int .i64 (ba 2), .int .i64 (ba 3), .int .i64 (ba 4)] 24)
  replace Rc := Rc.alloc (.cells #[.int .i64 n, .int .i64 (ba 0), .int .i64 (ba 1), .int .i64 (ba 2), .int .i64 (ba 3), .int .i64 (ba 4)] 24)
  replace Rab := Rab.alloc (.cells #[.int .i64 n, .int .i64 (ba 0), .int .i64 (ba 1), .int .i64 (ba 2), .int .i64 (ba 3), .int .i64 (ba 4)] 24)
  have Rba : Row (w4.alloc (.cells #[.int .i64 n, .int .i64 (ba 0), .int .i64 (ba 1), .int .i64 (ba 2), .int .i64 (ba 3), .int .i64 (ba 4)] 24)) w4.heap.size 24 (gC n fun p => (ba p : Int)) := row_new w4 [.int .i64 n, .int .i64 (ba 0), .int .i64 (ba 1), .int .i64 (ba 2), .int .i64 (ba 3), .int .i64 (ba 4)] 24
  have ex4g := ext_alloc' ex4 (.cells #[.int .i64 n, .int .i64 (ba 0), .int .i64 (ba 1), .int .i64 (ba 2), .int .i64 (ba 3), .int .i64 (ba 4)] 24)
  obtain ⟨sb0, sb1, sb2, sb3, sb4, sb5⟩ := Rb.six
  obtain ⟨sc0, sc1, sc2, sc3, sc4, sc5⟩ := Rc.six
  go_wp2_with fail
  refine (KU3.out _).mono ?_
  rintro _ w5 ⟨_, rfl, hb, rfl⟩
  clear sb0 sb1 sb2 sb3 sb4 sb5
  clear sc0 sc1 sc2 sc3 sc4 sc5
  have ex5 := ext_trans ex4g hb
  replace Ra := Ra.ext hb
  replace Rb := Rb.ext hb
  replace Rc := Rc.ext hb
  replace Rab := Rab.ext hb
  replace Rba := Rba.ext hb
  clear hb
  replace Ra := Ra.alloc (.cells #[.int .i64 n, .int .i64 (bc 0), .int .i64 (bc 1), .int .i64 (bc 2), .int .i64 (bc 3), .int .i64 (bc 4)] 24)
  replace Rb := Rb.alloc (.cells #[.int .i64 n, .int .i64 (bc 0), .int .i64 (bc 1), .int .i64 (bc 2), .int .i64 (bc 3), .int .i64 (bc 4)] 24)
  replace Rc := Rc.alloc (.cells #[.int .i64 n, .int .i64 (bc 0), .int .i64 (bc 1), .int .i64 (bc 2), .int .i64 (bc 3), .int .i64 (bc 4)] 24)
  replace Rab := Rab.alloc (.cells #[.int .i64 n, .int .i64 (bc 0), .int .i64 (bc 1), .int .i64 (bc 2), .int .i64 (bc 3), .int .i64 (bc 4)] 24)
  replace Rba := Rba.alloc (.cells #[.int .i64 n, .int .i64 (bc 0), .int .i64 (bc 1), .int .i64 (bc 2), .int .i64 (bc 3), .int .i64 (bc 4)] 24)
  have Rbc : Row (w5.alloc (.cells #[.int .i64 n, .int .i64 (bc 0), .int .i64 (bc 1), .int .i64 (bc 2), .int .i64 (bc 3), .int .i64 (bc 4)] 24)) w5.heap.size 24 (gC n fun p => (bc p : Int)) := row_new w5 [.int .i64 n, .int .i64 (bc 0), .int .i64 (bc 1), .int .i64 (bc 2), .int .i64 (bc 3), .int .i64 (bc 4)] 24
  have ex5g := ext_alloc' ex5 (.cells #[.int .i64 n, .int .i64 (bc 0), .int .i64 (bc 1), .int .i64 (bc 2), .int .i64 (bc 3), .int .i64 (bc 4)] 24)
  obtain ⟨sa0, sa1, sa2, sa3, sa4, sa5⟩ := Ra.six
  go_wp2_with fail
  refine (KU4.out _).mono ?_
  rintro _ w6 ⟨_, rfl, hb, rfl⟩
  clear sa0 sa1 sa2 sa3 sa4 sa5
  have ex6 := ext_trans ex5g hb
  replace Ra := Ra.ext hb
  replace Rb := Rb.ext hb
  replace Rc := Rc.ext hb
  replace Rab := Rab.ext hb
  replace Rba := Rba.ext hb
  replace Rbc := Rbc.ext hb
  clear hb
  replace Ra := Ra.alloc (.cells #[.int .i64 n, .int .i64 (aa 0), .int .i64 (aa 1), .int .i64 (aa 2), .int .i64 (aa 3), .int .i64 (aa 4)] 24)
  replace Rb := Rb.alloc (.cells #[.int .i64 n, .int .i64 (aa 0), .int .i64 (aa 1), .int .i64 (aa 2), .int .i64 (aa 3), .int .i64 (aa 4)] 24)
  replace Rc := Rc.alloc (.cells #[.int .i64 n, .int .i64 (aa 0), .int .i64 (aa 1), .int .i64 (aa 2), .int .i64 (aa 3), .int .i64 (aa 4)] 24)
  replace Rab := Rab.alloc (.cells #[.int .i64 n, .int .i64 (aa 0), .int .i64 (aa 1), .int .i64 (aa 2), .int .i64 (aa 3), .int .i64 (aa 4)] 24)
  replace Rba := Rba.alloc (.cells #[.int .i64 n, .int .i64 (aa 0), .int .i64 (aa 1), .int .i64 (aa 2), .int .i64 (aa 3), .int .i64 (aa 4)] 24)
  replace Rbc := Rbc.alloc (.cells #[.int .i64 n, .int .i64 (aa 0), .int .i64 (aa 1), .int .i64 (aa 2), .int .i64 (aa 3), .int .i64 (aa 4)] 24)
  have Raa : Row (w6.alloc (.cells #[.int .i64 n, .int .i64 (aa 0), .int .i64 (aa 1), .int .i64 (aa 2), .int .i64 (aa 3), .int .i64 (aa 4)] 24)) w6.heap.size 24 (gC n fun p => (aa p : Int)) := row_new w6 [.int .i64 n, .int .i64 (aa 0), .int .i64 (aa 1), .int .i64 (aa 2), .int .i64 (aa 3), .int .i64 (aa 4)] 24
  have ex6g := ext_alloc' ex6 (.cells #[.int .i64 n, .int .i64 (aa 0), .int .i64 (aa 1), .int .i64 (aa 2), .int .i64 (aa 3), .int .i64 (aa 4)] 24)
  obtain ⟨sab0, sab1, sab2, sab3, sab4, sab5⟩ := Rab.six
  obtain ⟨sc0, sc1, sc2, sc3, sc4, sc5⟩ := Rc.six
  go_wp2_with fail
  refine (KU5.out _).mono ?_
  rintro _ w7 ⟨_, rfl, hb, rfl⟩
  clear sab0 sab1 sab2 sab3 sab4 sab5
  clear sc0 sc1 sc2 sc3 sc4 sc5
  have ex7 := ext_trans ex6g hb
  replace Ra := Ra.ext hb
  replace Rb := Rb.ext hb
  replace Rc := Rc.ext hb
  replace Rab := Rab.ext hb
  replace Rba := Rba.ext hb
  replace Rbc := Rbc.ext hb
  replace Raa := Raa.ext hb
  clear hb
  replace Ra := Ra.alloc (.cells #[.int .i64 n, .int .i64 (ll 0), .int .i64 (ll 1), .int .i64 (ll 2), .int .i64 (ll 3), .int .i64 (ll 4)] 24)
  replace Rb := Rb.alloc (.cells #[.int .i64 n, .int .i64 (ll 0), .int .i64 (ll 1), .int .i64 (ll 2), .int .i64 (ll 3), .int .i64 (ll 4)] 24)
  replace Rc := Rc.alloc (.cells #[.int .i64 n, .int .i64 (ll 0), .int .i64 (ll 1), .int .i64 (ll 2), .int .i64 (ll 3), .int .i64 (ll 4)] 24)
  replace Rab := Rab.alloc (.cells #[.int .i64 n, .int .i64 (ll 0), .int .i64 (ll 1), .int .i64 (ll 2), .int .i64 (ll 3), .int .i64 (ll 4)] 24)
  replace Rba := Rba.alloc (.cells #[.int .i64 n, .int .i64 (ll 0), .int .i64 (ll 1), .int .i64 (ll 2), .int .i64 (ll 3), .int .i64 (ll 4)] 24)
  replace Rbc := Rbc.alloc (.cells #[.int .i64 n, .int .i64 (ll 0), .int .i64 (ll 1), .int .i64 (ll 2), .int .i64 (ll 3), .int .i64 (ll 4)] 24)
  replace Raa := Raa.alloc (.cells #[.int .i64 n, .int .i64 (ll 0), .int .i64 (ll 1), .int .i64 (ll 2), .int .i64 (ll 3), .int .i64 (ll 4)] 24)
  have Rll : Row (w7.alloc (.cells #[.int .i64 n, .int .i64 (ll 0), .int .i64 (ll 1), .int .i64 (ll 2), .int .i64 (ll 3), .int .i64 (ll 4)] 24)) w7.heap.size 24 (gC n fun p => (ll p : Int)) := row_new w7 [.int .i64 n, .int .i64 (ll 0), .int .i64 (ll 1), .int .i64 (ll 2), .int .i64 (ll 3), .int .i64 (ll 4)] 24
  have ex7g := ext_alloc' ex7 (.cells #[.int .i64 n, .int .i64 (ll 0), .int .i64 (ll 1), .int .i64 (ll 2), .int .i64 (ll 3), .int .i64 (ll 4)] 24)
  obtain ⟨sa0, sa1, sa2, sa3, sa4, sa5⟩ := Ra.six
  obtain ⟨sbc0, sbc1, sbc2, sbc3, sbc4, sbc5⟩ := Rbc.six
  go_wp2_with fail
  refine (KU6.out _).mono ?_
  rintro _ w8 ⟨_, rfl, hb, rfl⟩
  clear sa0 sa1 sa2 sa3 sa4 sa5
  clear sbc0 sbc1 sbc2 sbc3 sbc4 sbc5
  have ex8 := ext_trans ex7g hb
  replace Ra := Ra.ext hb
  replace Rb := Rb.ext hb
  replace Rc := Rc.ext hb
  replace Rab := Rab.ext hb
  replace Rba := Rba.ext hb
  replace Rbc := Rbc.ext hb
  replace Raa := Raa.ext hb
  replace Rll := Rll.ext hb
  clear hb
  replace Ra := Ra.alloc (.cells #[.int .i64 n, .int .i64 (rr 0), .int .i64 (rr 1), .int .i64 (rr 2), .int .i64 (rr 3), .int .i64 (rr 4)] 24)
  replace Rb := Rb.alloc (.cells #[.int .i64 n, .int .i64 (rr 0), .int .i64 (rr 1), .int .i64 (rr 2), .int .i64 (rr 3), .int .i64 (rr 4)] 24)
  replace Rc := Rc.alloc (.cells #[.int .i64 n, .int .i64 (rr 0), .int .i64 (rr 1), .int .i64 (rr 2), .int .i64 (rr 3), .int .i64 (rr 4)] 24)
  replace Rab := Rab.alloc (.cells #[.int .i64 n, .int .i64 (rr 0), .int .i64 (rr 1), .int .i64 (rr 2), .int .i64 (rr 3), .int .i64 (rr 4)] 24)
  replace Rba := Rba.alloc (.cells #[.int .i64 n, .int .i64 (rr 0), .int .i64 (rr 1), .int .i64 (rr 2), .int .i64 (rr 3), .int .i64 (rr 4)] 24)
  replace Rbc := Rbc.alloc (.cells #[.int .i64 n, .int .i64 (rr 0), .int .i64 (rr 1), .int .i64 (rr 2), .int .i64 (rr 3), .int .i64 (rr 4)] 24)
  replace Raa := Raa.alloc (.cells #[.int .i64 n, .int .i64 (rr 0), .int .i64 (rr 1), .int .i64 (rr 2), .int .i64 (rr 3), .int .i64 (rr 4)] 24)
  replace Rll := Rll.alloc (.cells #[.int .i64 n, .int .i64 (rr 0), .int .i64 (rr 1), .int .i64 (rr 2), .int .i64 (rr 3), .int .i64 (rr 4)] 24)
  have Rrr : Row (w8.alloc (.cells #[.int .i64 n, .int .i64 (rr 0), .int .i64 (rr 1), .int .i64 (rr 2), .int .i64 (rr 3), .int .i64 (rr 4)] 24)) w8.heap.size 24 (gC n fun p => (rr p : Int)) := row_new w8 [.int .i64 n, .int .i64 (rr 0), .int .i64 (rr 1), .int .i64 (rr 2), .int .i64 (rr 3), .int .i64 (rr 4)] 24
  have ex8g := ext_alloc' ex8 (.cells #[.int .i64 n, .int .i64 (rr 0), .int .i64 (rr 1), .int .i64 (rr 2), .int .i64 (rr 3), .int .i64 (rr 4)] 24)
  obtain ⟨sa0, sa1, sa2, sa3, sa4, sa5⟩ := Ra.six
  obtain ⟨saa0, saa1, saa2, saa3, saa4, saa5⟩ := Raa.six
  obtain ⟨sab0, sab1, sab2, sab3, sab4, sab5⟩ := Rab.six
  obtain ⟨sb0, sb1, sb2, sb3, sb4, sb5⟩ := Rb.six
  obtain ⟨sba0, sba1, sba2, sba3, sba4, sba5⟩ := Rba.six
  obtain ⟨sll0, sll1, sll2, sll3, sll4, sll5⟩ := Rll.six
  obtain ⟨srr0, srr1, srr2, srr3, srr4, srr5⟩ := Rrr.six
  go_wp2_with fail
  refine (KI1.out _).mono ?_
  rintro _ w9 ⟨_, rfl, hb, b1, rfl, h1⟩
  clear sa0 sa1 sa2 sa3 sa4 sa5
  clear saa0 saa1 saa2 saa3 saa4 saa5
  clear sab0 sab1 sab2 sab3 sab4 sab5
  clear sb0 sb1 sb2 sb3 sb4 sb5
  clear sba0 sba1 sba2 sba3 sba4 sba5
  clear sll0 sll1 sll2 sll3 sll4 sll5
  clear srr0 srr1 srr2 srr3 srr4 srr5
  have ex9 := ext_trans ex8g hb
  replace Ra := Ra.ext hb
  replace Rb := Rb.ext hb
  replace Rc := Rc.ext hb
  replace Rab := Rab.ext hb
  replace Rba := Rba.ext hb
  replace Rbc := Rbc.ext hb
  replace Raa := Raa.ext hb
  replace Rll := Rll.ext hb
  replace Rrr := Rrr.ext hb
  clear hb
  have Hb1 := Lib.hid h1
  clear h1
  obtain ⟨sa0, sa1, sa2, sa3, sa4, sa5⟩ := Ra.six
  obtain ⟨sab0, sab1, sab2, sab3, sab4, sab5⟩ := Rab.six
  go_wp2_with fail
  refine (KI2.out _).mono ?_
  rintro _ w10 ⟨_, rfl, hb, b2, rfl, h2⟩
  clear sa0 sa1 sa2 sa3 sa4 sa5
  clear sab0 sab1 sab2 sab3 sab4 sab5
  have ex10 := ext_trans ex9 hb
  replace Ra := Ra.ext hb
  replace Rb := Rb.ext hb
  replace Rc := Rc.ext hb
  replace Rab := Rab.ext hb
  replace Rba := Rba.ext hb
  replace Rbc := Rbc.ext hb
  replace Raa := Raa.ext hb
  replace Rll := Rll.ext hb
  replace Rrr := Rrr.ext hb
  clear hb
  have Hb2 := Lib.hid h2
  clear h2
  obtain ⟨sa0, sa1, sa2, sa3, sa4, sa5⟩ := Ra.six
  obtain ⟨sc0, sc1, sc2, sc3, sc4, sc5⟩ := Rc.six
  go_wp2_with fail
  refine (KI3.out _).mono ?_
  rintro _ w11 ⟨_, rfl, hb, b3, rfl, h3⟩
  clear sa0 sa1 sa2 sa3 sa4 sa5
  clear sc0 sc1 sc2 sc3 sc4 sc5
  have ex11 := ext_trans ex10 hb
  replace Ra := Ra.ext hb
  replace Rb := Rb.ext hb
  replace Rc := Rc.ext hb
  replace Rab := Rab.ext hb
  replace Rba := Rba.ext hb
  replace Rbc := Rbc.ext hb
  replace Raa := Raa.ext hb
  replace Rll := Rll.ext hb
  replace Rrr := Rrr.ext hb
  clear hb
  have Hb3 := Lib.hid h3
  clear h3
  obtain ⟨sb0, sb1, sb2, sb3, sb4, sb5⟩ := Rb.six
  obtain ⟨sc0, sc1, sc2, sc3, sc4, sc5⟩ := Rc.six
  go_wp2_with fail
  refine (KI4.out _).mono ?_
  rintro _ w12 ⟨_, rfl, hb, b4, rfl, h4⟩
  clear sb0 sb1 sb2 sb3 sb4 sb5
  clear sc0 sc1 sc2 sc3 sc4 sc5
  have ex12 := ext_trans ex11 hb
  replace Ra := Ra.ext hb
  replace Rb := Rb.ext hb
  replace Rc := Rc.ext hb
  replace Rab := Rab.ext hb
  replace Rba := Rba.ext hb
  replace Rbc := Rbc.ext hb
  replace Raa := Raa.ext hb
  replace Rll := Rll.ext hb
  replace Rrr := Rrr.ext hb
  clear hb
  have Hb4 := Lib.hid h4
  clear h4
  obtain ⟨sab0, sab1, sab2, sab3, sab4, sab5⟩ := Rab.six
  obtain ⟨sc0, sc1, sc2, sc3, sc4, sc5⟩ := Rc.six
  go_wp2_with fail
  refine (KI5.out _).mono ?_
  rintro _ w13 ⟨_, rfl, hb, b5, rfl, h5⟩
  clear sab0 sab1 sab2 sab3 sab4 sab5
  clear sc0 sc1 sc2 sc3 sc4 sc5
  have ex13 := ext_trans ex12 hb
  replace Ra := Ra.ext hb
  replace Rb := Rb.ext hb
  replace Rc := Rc.ext hb
  replace Rab := Rab.ext hb
  replace Rba := Rba.ext hb
  replace Rbc := Rbc.ext hb
  replace Raa := Raa.ext hb
  replace Rll := Rll.ext hb
  replace Rrr := Rrr.ext hb
  clear hb
  have Hb5 := Lib.hid h5
  clear h5
  obtain rfl : b2 = true := Hb2.out.2 HI2.out
  obtain rfl : b5 = (b3 && b4) := by
    rw [Bool.eq_iff_iff, Hb5.out, HI3.out, Bool.and_eq_true, Hb3.out, Hb4.out]
  have E4 := HE4.out b1 (Hb1.out.trans HI1.out)
  clear HE4 Hb1 Hb2 Hb3 Hb4 Hb5 HI1 HI2 HI3
  obtain ⟨sab0, sab1, sab2, sab3, sab4, sab5⟩ := Rab.six
  obtain ⟨sb0, sb1, sb2, sb3, sb4, sb5⟩ := Rb.six
  cases b1 <;> cases b3 <;> cases b4
  all_goals
    go_wp2
    go_ret
    exact .mk ex13 rfl
theorem walkTopGraphsOrdered {w : World} (TB : Tab w) (na : Int) (fa : Nat → Int) (nb : Int) (fb : Nat → Int) (nc : Int) (fc : Nat → Int) :
    Calls Tryd.prog 3 #[gV na fa, gV nb fb, gV nc fc] w (Post w fun _ r => r = .bool true) := by
  by_cases h : ∀ i, i < [(na, fa), (nb, fb), (nc, fc)].length → okG [(na, fa), (nb, fb), (nc, fc)] i
  · obtain ⟨⟨⟨n, a, rfl, HA, ea⟩, _⟩, ⟨⟨n2, b, e2, HB, eb⟩, q2⟩, ⟨n3, c, e3, HC, ec⟩, q3⟩ := (gs3 _ _ _ _ _ _ _).1 h
    have e2' : nb = n2 := e2
    have e3' : nc = n3 := e3
    have q2' : nb = n := q2
    have q3' : nc = n := q3
    obtain rfl : n2 = n := by omega
    obtain rfl : n3 = n2 := by omega
    subst e2' 
    have ea' : ∀ p, p < 5 → fa p = (a p : Int) := ea
    have eb' : ∀ p, p < 5 → fb p = (b p : Int) := eb
    have ec' : ∀ p, p < 5 → fc p = (c p : Int) := ec
    rw [q3', gV_congr ea', gV_congr eb', gV_congr ec']
    exact ordered_ok TB HA HB HC
  · exact ordered_bad TB h
end Go.Proofs.YtmlgbaogkbfklaaDoor
