/- Unions of graphs, graphs inside of others. -/
import Derived.Test.YtmlgbaogkbfklaaDoorGrE
namespace Go.Proofs.YtmlgbaogkbfklaaDoor
set_option linter.unusedVariables false
open Go.RowKit
attribute [local go_sem ↓] Go.wp_at_zero Go.wp_at_succ

theorem union1_calls {w : World} {A B n : Nat} {e e' : TypeId} {h h' : Nat → Nat} (RA : Row w A 24 (gC n fun p => (h p : Int))) (RB : Row w B 24 (gC n fun p => (h' p : Int))) {p : Nat} (hp : p < 5) (hs : h p < 32) (hs' : h' p < 32) :
    Calls Tryd.prog 30 #[.int .i64 p, .pointer (some ⟨A, 0, none⟩), .pointer (some ⟨B, 0, none⟩)] w (Post w fun _ r => r = .int .i64 ((h p ||| h' p : Nat) : Int)) := by
  have qa := idx_five A hp
  have qb := idx_five B hp
  have ca := RA.hear hp
  have cb := RB.hear hp
  have HO := Lib.hid (or_nat (a := h p) (b := h' p) (by omega) (by omega))
  obtain ⟨x, hx⟩ : ∃ x, x = h p := ⟨_, rfl⟩
  obtain ⟨y, hy⟩ : ∃ y, y = h' p := ⟨_, rfl⟩
  rw [← hx] at ca HO
  rw [← hy] at cb HO
  rw [← hx, ← hy]
  clear hx hy hs hs'
  go_enter Tryd.func30, Tryd.ntmps30
  go_wp2
  go_quiet (fail)

  go_wp2
  go_ret
  exact .mk (drewN_below _ _ _) (int_eq HO.out)
set_option maxRecDepth 100000 in
theorem union_calls (w : World) {n : Nat} {h h' : Nat → Nat} (H : GOK n h) (H' : GOK n h') : Calls Tryd.prog 8 #[hV n h, hV n h'] w (Post w fun _ r => r = .tuple #[hV n (cut n fun p => h p ||| h' p), .int .i64 0]) := by
  have hn := H.le
  have hS := fun p hp => H.small (p := p) hp
  have hS' := fun p hp => H'.small (p := p) hp
  have K1 := Lib.hid fun W => gboth_calls W H H'
  obtain ⟨c, hc⟩ : ∃ c, c = cut n fun p => h p ||| h' p := ⟨_, rfl⟩
  rw [← hc]
  unfold hV gV at K1 ⊢
  obtain ⟨g1, hg1⟩ : ∃ o, o = Obj.cells #[.int .i64 n, .int .i64 (h 0), .int .i64 (h 1), .int .i64 (h 2), .int .i64 (h 3), .int .i64 (h 4)] 24 := ⟨_, rfl⟩
  obtain ⟨g2, hg2⟩ : ∃ o, o = Obj.cells #[.int .i64 n, .int .i64 (h' 0), .int .i64 (h' 1), .int .i64 (h' 2), .int .i64 (h' 3), .int .i64 (h' 4)] 24 := ⟨_, rfl⟩
  obtain ⟨g3, hg3⟩ : ∃ o, o = Obj.cells #[.int .i64 0, .int .i64 0, .int .i64 0, .int .i64 0, .int .i64 0, .int .i64 0] 24 := ⟨_, rfl⟩
  have ex := ext_alloc' (ext_alloc' (ext_alloc w g1) g2) g3
  have r1 := ((hg1 ▸ Row.graph w n fun p => (h p : Int) : Row (w.alloc g1) w.heap.size 24 (gC n fun p => (h p : Int))).alloc g2).alloc g3
  have r2 := (hg2 ▸ Row.graph (w.alloc g1) n fun p => (h' p : Int) : Row ((w.alloc g1).alloc g2) (w.alloc g1).heap.size 24 (gC n fun p => (h' p : Int))).alloc g3
  have r3 : Row (((w.alloc g1).alloc g2).alloc g3) ((w.alloc g1).alloc g2).heap.size 24 (gC 0 fun _ => 0) := hg3 ▸ Row.graph ((w.alloc g1).alloc g2) 0 fun _ => 0
  simp only [World.size_alloc] at r2 r3
  obtain ⟨a0, a1, a2, a3, a4, a5⟩ := r1.six
  obtain ⟨b0, b1, b2, b3, b4, b5⟩ := r2.six
  subst hg1 hg2 hg3
  have eg : ∀ args w, (callFunc 30 args).run Tryd.prog w = .ok (.enter 30 args) w := fun args w => by rfl
  go_enter Tryd.func8, Tryd.ntmps8
  go_wp2_with fail
  refine (K1.out _).mono ?_
  rintro _ w1 ⟨_, rfl, hb1, rfl⟩
  clear a0 a1 a2 a3 a4 a5 b0 b1 b2 b3 b4 b5
  have R1 := r1.ext hb1
  have R2 := r2.ext hb1
  have R3 := r3.ext hb1
  have ex1 := ext_trans ex hb1
  have KM := Lib.hid (made_calls (w := w1) (E := #[.pointer (some ⟨w.heap.size, 0, none⟩), .pointer (some ⟨w.heap.size + 1, 0, none⟩)]) (h := fun p => h p ||| h' p) hn eg fun W hW p hp => union1_calls (e := 0) (e' := 0) (R1.ext hW) (R2.ext hW) (by omega) (hS p (by omega)) (hS' p (by omega)))
  rw [← hc] at KM
  clear hc eg r1 r2 r3 ex hb1 hS hS' K1
  unfold hV gV at KM
  obtain ⟨a0, _⟩ := R1.six
  go_wp2_with fail
  refine KM.out.mono ?_
  rintro _ w2 ⟨_, rfl, hb2, rfl⟩
  have R3 := R3.ext hb2
  have ex2 := ext_trans ex1 hb2
  clear a0
  obtain ⟨a0, a1, a2, a3, a4, a5⟩ := R3.six
  have R4 := row_set6 R3 n (fun p => (c p : Int))
  have hb3 := set6_below (g := w.heap.size + 1 + 1) (.int .i64 n) (.int .i64 (c 0 : Int)) (.int .i64 (c 1 : Int)) (.int .i64 (c 2 : Int)) (.int .i64 (c 3 : Int)) (.int .i64 (c 4 : Int)) ex2 (by omega)
  have f0 := R3.free 0
  have f1 := R3.free 1
  have f2 := R3.free 2
  have f3 := R3.free 3
  have f4 := R3.free 4
  have f5 := R3.free 5
  obtain ⟨d0, d1, d2, d3, d4, d5⟩ := R4.six
  go_wp2
  refine bodyPost_ret (v := .tuple #[.agg #[.int .i64 n, .int .i64 (c 0 : Int), .int .i64 (c 1 : Int), .int .i64 (c 2 : Int), .int .i64 (c 3 : Int), .int .i64 (c 4 : Int)], .int .i64 0]) (by simp [results, Tryd.results8, go_sem, d0, d1, d2, d3, d4, d5]) rfl ?_
  exact .mk hb3 rfl

def insideB (h h' : Nat → Nat) (k : Nat) : Prop := ∀ p, p < k → without (h p) (h' p) = 0
set_option maxRecDepth 100000 in
set_option maxHeartbeats 4000000 in
theorem inside_calls (w : World) {n : Nat} {h h' : Nat → Nat} (H : GOK n h) (H' : GOK n h') : Calls Tryd.prog 9 #[hV n h, hV n h'] w (Post w fun _ r => ∃ b, r = .tuple #[.bool b, .int .i64 0] ∧ (b = true ↔ insideB h h' 5)) := by
  have HS := Lib.hid fun p hp => H.small (p := p) hp
  have HS' := Lib.hid fun p hp => H'.small (p := p) hp
  have K1 := Lib.hid fun W => gboth_calls W H H'
  clear H H'
  have HI := Lib.hid fun p hp W => index_five (fun p => (h p : Int)) (p := p) hp W
  unfold hV gV at K1 ⊢
  obtain ⟨g1, hg1⟩ : ∃ o, o = Obj.cells #[.int .i64 n, .int .i64 (h 0), .int .i64 (h 1), .int .i64 (h 2), .int .i64 (h 3), .int .i64 (h 4)] 24 := ⟨_, rfl⟩
  obtain ⟨g2, hg2⟩ : ∃ o, o = Obj.cells #[.int .i64 n, .int .i64 (h' 0), .int .i64 (h' 1), .int .i64 (h' 2), .int .i64 (h' 3), .int .i64 (h' 4)] 24 := ⟨_, rfl⟩
  have ex := ext_alloc' (ext_alloc w g1) g2
  have r1 := (hg1 ▸ Row.graph w n fun p => (h p : Int) : Row (w.alloc g1) w.heap.size 24 (gC n fun p => (h p : Int))).alloc g2
  have r2 : Row ((w.alloc g1).alloc g2) (w.alloc g1).heap.size 24 (gC n fun p => (h' p : Int)) := hg2 ▸ Row.graph (w.alloc g1) n fun p => (h' p : Int)
  simp only [World.size_alloc] at r2
  obtain ⟨a0, a1, a2, a3, a4, a5⟩ := r1.six
  obtain ⟨b0, b1, b2, b3, b4, b5⟩ := r2.six
  subst hg1 hg2
  go_enter Tryd.func9, Tryd.ntmps9
  go_wp2_with fail
  refine (K1.out _).mono ?_
  rintro _ w1 ⟨_, rfl, hb1, rfl⟩
  clear a0 a1 a2 a3 a4 a5 b0 b1 b2 b3 b4 b5
  have R1 := r1.ext hb1
  have R2 := r2.ext hb1
  have ex1 := ext_trans ex hb1
  clear K1 r1 r2 ex hb1
  obtain ⟨a0, a1, a2, a3, a4, a5⟩ := R1.six
  go_wp2
  go_loopw [7, 8, 17] (fun _ _ i wr => ∃ k : Nat, k ≤ 5 ∧ i = .int .i64 k ∧ Below w.heap.size w wr ∧ Row wr (w.heap.size + 1) 24 (gC n fun p => (h' p : Int)) ∧ Hid (insideB h h' k)) (fun _ _ i _ => 5 - (intOf i).toNat)
  case atStart => exact ⟨0, Nat.zero_le _, rfl, ex1, R2, Lib.hid fun p hp => absurd hp (by omega)⟩
  case round =>
    clear a0 a1 a2 a3 a4 a5 ex1 R1 R2
    obtain ⟨k, hk, rfl, hb, R, HB⟩ := hrel
    by_cases hlt : k < 5
    · have q := HI.out k hlt
      have q2 := idx_five (w.heap.size + 1) hlt
      have c2 := R.hear hlt
      try dsimp only at q c2
      have HN := Lib.hid (andNot_nat (a := h k) (b := h' k) (by have := HS.out k hlt; omega) (by have := HS'.out k hlt; omega))
      have HK : Hid (∀ p, p < k + 1 → p = k ∨ p < k) := Lib.hid fun p hp => by omega
      obtain ⟨x, hx⟩ : ∃ x, x = h k := ⟨_, rfl⟩
      obtain ⟨y, hy⟩ : ∃ y, y = h' k := ⟨_, rfl⟩
      rw [← hx] at q
      rw [← hy] at c2
      rw [← hx, ← hy] at HN
      have HX := Lib.hid hx
      have HY := Lib.hid hy
      clear hx hy
      obtain ⟨z, hz⟩ : ∃ z, z = bits .andNot .i64 (x : Int) (y : Int) := ⟨_, rfl⟩
      by_cases h0 : without x y = 0
      · have d0 : (bits .andNot .i64 (x : Int) (y : Int) != 0) = false := by rw [HN.out, h0]; rfl
        have HB2 : Hid (insideB h h' (k + 1)) := Lib.hid fun p hp => by
          rcases HK.out p hp with rfl | h2
          · rw [← HX.out, ← HY.out]; exact h0
          · exact HB.out p h2
        clear h0 hz
        go_wp2
        go_roundw
        case rel => exact ⟨k + 1, by omega, by go_num, hb, R, HB2⟩
        case measure => simp [intOf]; omega
      · have d0 : (bits .andNot .i64 (x : Int) (y : Int) != 0) = true := by rw [HN.out]; simp; exact h0
        have NO : Hid (¬ insideB h h' 5) := Lib.hid fun hh => h0 (by have := hh k hlt; rw [← HX.out, ← HY.out] at this; exact this)
        clear h0 hz
        go_wp2
        go_ret2
        exact .mk hb ⟨false, rfl, ⟨(fun h => nomatch h), fun h => absurd h NO.out⟩⟩
    · obtain rfl : k = 5 := by omega
      go_wp2
      go_ret2
      exact .mk hb ⟨true, rfl, ⟨fun _ => HB.out, fun _ => rfl⟩⟩
end Go.Proofs.YtmlgbaogkbfklaaDoor
