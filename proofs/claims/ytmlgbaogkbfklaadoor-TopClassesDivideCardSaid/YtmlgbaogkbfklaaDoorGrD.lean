/- The program's checks of graphs, and graphs that are made row by row. -/
import Derived.Test.YtmlgbaogkbfklaaDoorGrC
namespace Go.Proofs.YtmlgbaogkbfklaaDoor
set_option linter.unusedVariables false
open Go.RowKit
attribute [local go_sem ↓] Go.wp_at_zero Go.wp_at_succ

set_option maxRecDepth 100000 in
theorem index_five (f : Nat → Int) {p : Nat} (hp : p < 5) (W : World) : (Instr.index 22 (.agg #[.int .i64 (f 0), .int .i64 (f 1), .int .i64 (f 2), .int .i64 (f 3), .int .i64 (f 4)]) (.int .i64 p)).run Tryd.prog W = .ok (.int .i64 (f p)) W := by
  obtain ⟨i, hi, hz1, hz2, hz3⟩ := info_parts info_int
  have hP := part_one W [.int .i64 (f 0), .int .i64 (f 1), .int .i64 (f 2), .int .i64 (f 3), .int .i64 (f 4)] p (.int .i64 (f p)) (by rcases five hp with rfl | rfl | rfl | rfl | rfl <;> rfl)
  simp [Instr.index, asIntOf, run_underlying Tryd.underlying22, sizeOf, typeInfo, hi, hz2]
  rw [if_pos hp]
  exact hP
theorem full_quiet (w : World) {n : Nat} (hn : n ≤ 5) : Calls Tryd.prog 48 #[.int .i64 n] w (QuietP w (.int .i64 ((2 ^ n : Nat) - 1 : Int))) := by
  go_enter Tryd.func48, Tryd.ntmps48
  go_wp2
  go_ret
  refine .of (int_eq ?_) 0
  have : n = 0 ∨ n = 1 ∨ n = 2 ∨ n = 3 ∨ n = 4 ∨ n = 5 := by omega
  rcases this with rfl | rfl | rfl | rfl | rfl | rfl <;> decide +kernel
theorem bit_zero {a p : Nat} (h : a.testBit p = true) : (bits .and .i64 ((a : Int) / 2 ^ p) 1 == 0) = false := by
  have := bit_nat a p
  rw [h, beq_iff_eq] at this
  rw [this]; rfl
set_option maxRecDepth 100000 in
set_option maxHeartbeats 4000000 in
theorem gcheck_calls (w : World) {n : Nat} {h : Nat → Nat} (H : GOK n h) : Calls Tryd.prog 34 #[hV n h] w (Post w fun _ r => r = .int .i64 0) := by
  obtain ⟨f, hf⟩ : ∃ f : Nat → Int, f = fun p => (h p : Int) := ⟨_, rfl⟩
  show Calls Tryd.prog 34 #[gV n fun p => (h p : Int)] w _
  rw [← hf]
  have HH := Lib.hid fun p => (congrFun hf p : f p = (h p : Int))
  clear hf
  unfold gV
  have ex := ext_alloc w (.cells #[.int .i64 n, .int .i64 (f 0), .int .i64 (f 1), .int .i64 (f 2), .int .i64 (f 3), .int .i64 (f 4)] 24)
  have rg := Row.graph w n f
  have n1 := H.pos
  have n5 := H.le
  have HK := Lib.hid H
  have HF := Lib.hid fun W => ((full_quiet W n5).mono fun _ _ h => h.take)
  obtain ⟨z, hz⟩ : ∃ z, z = 2 ^ n := ⟨_, rfl⟩
  have HZ := Lib.hid hz
  rw [← hz] at HF
  clear hz H
  have HI := Lib.hid fun p hp W => index_five f (p := p) hp W
  go_enter Tryd.func34, Tryd.ntmps34
  go_wp2
  go_loopw [3, 4, 15] (fun _ _ i wr => ∃ k : Nat, k ≤ 5 ∧ i = .int .i64 k ∧ Below w.heap.size w wr ∧ Row wr w.heap.size 24 (gC n f)) (fun _ _ i _ => 5 - (intOf i).toNat)
  case atStart => exact ⟨0, Nat.zero_le _, rfl, ex, rg⟩
  case round =>
    clear ex rg
    obtain ⟨k, hk, rfl, hb, R⟩ := hrel
    by_cases hlt : k < 5
    · have q := HI.out k hlt
      obtain ⟨c0, _⟩ := R.six
      have hx := HH.out k
      obtain ⟨x, hxx⟩ : ∃ x, x = f k := ⟨_, rfl⟩
      rw [← hxx] at q hx
      clear hxx
      by_cases hkm : k < n
      · obtain ⟨a, ha⟩ : ∃ a, a = h k := ⟨_, rfl⟩
        rw [← ha] at hx
        subst hx
        have hal : a < z := by rw [ha, HZ.out]; exact HK.out.lt k hkm
        have HB := Lib.hid (bit_zero (a := a) (p := k) (by rw [ha]; exact HK.out.own k hkm))
        have hb0 := HB.out
        clear ha
        go_wp2_with fail
        refine (HF.out _).mono ?_
        rintro _ w1 ⟨_, rfl, hq1, rfl⟩
        have hb1 := hb.trans (hq1.ext.mono hb.size)
        have R1 := R.ext hq1.ext
        clear c0 q
        go_wp2
        go_roundw
        case rel => exact ⟨k + 1, by omega, by go_num, hb1, R1⟩
        case measure => simp [intOf]; omega
      · have h0 : x = 0 := by rw [hx, HK.out.zero k (by omega) hlt]; rfl
        subst h0
        clear hx
        go_wp2
        go_roundw
        case rel => exact ⟨k + 1, by omega, by go_num, hb, R⟩
        case measure => simp [intOf]; omega
    · obtain rfl : k = 5 := by omega
      go_wp2
      go_ret
      exact .mk hb rfl
theorem gboth_calls (w : World) {n : Nat} {h h' : Nat → Nat} (H : GOK n h) (H' : GOK n h') : Calls Tryd.prog 28 #[hV n h, hV n h'] w (Post w fun _ r => r = .int .i64 0) := by
  have K1 := Lib.hid fun W => gcheck_calls W H
  have K2 := Lib.hid fun W => gcheck_calls W H'
  unfold hV gV at K1 K2 ⊢
  have ex := ext_alloc' (ext_alloc w (.cells #[.int .i64 n, .int .i64 (h 0), .int .i64 (h 1), .int .i64 (h 2), .int .i64 (h 3), .int .i64 (h 4)] 24)) (.cells #[.int .i64 n, .int .i64 (h' 0), .int .i64 (h' 1), .int .i64 (h' 2), .int .i64 (h' 3), .int .i64 (h' 4)] 24)
  have r1 := (Row.graph w n fun p => (h p : Int)).alloc (.cells #[.int .i64 n, .int .i64 (h' 0), .int .i64 (h' 1), .int .i64 (h' 2), .int .i64 (h' 3), .int .i64 (h' 4)] 24)
  have r2 := Row.graph (w.alloc (.cells #[.int .i64 n, .int .i64 (h 0), .int .i64 (h 1), .int .i64 (h 2), .int .i64 (h 3), .int .i64 (h 4)] 24)) n fun p => (h' p : Int)
  rw [World.size_alloc] at r2
  obtain ⟨a0, a1, a2, a3, a4, a5⟩ := r1.six
  obtain ⟨b0, b1, b2, b3, b4, b5⟩ := r2.six
  go_enter Tryd.func28, Tryd.ntmps28
  go_wp2_with fail
  refine (K1.out _).mono ?_
  rintro _ w1 ⟨_, rfl, hb1, rfl⟩
  clear a0 a1 a2 a3 a4 a5 b0 b1 b2 b3 b4 b5
  have r1 := r1.ext hb1
  have r2 := r2.ext hb1
  have ex := ext_trans ex hb1
  obtain ⟨b0, b1, b2, b3, b4, b5⟩ := r2.six
  go_wp2_with fail
  refine (K2.out _).mono ?_
  rintro _ w2 ⟨_, rfl, hb2, rfl⟩
  clear b0 b1 b2 b3 b4 b5
  have r1 := r1.ext hb2
  have r2 := r2.ext hb2
  have ex := ext_trans ex hb2
  obtain ⟨a0, _⟩ := r1.six
  obtain ⟨b0, _⟩ := r2.six
  go_wp2
  go_ret
  exact .mk ex rfl

/-- What a row function gives is what h says. -/
def RowFn (w : World) (n : Nat) (g : Nat) (E : Array Value) (h : Nat → Nat) : Prop := ∀ W, Below w.heap.size w W → ∀ p, p < n → Calls Tryd.prog g (#[.int .i64 p] ++ E) W (Post W fun _ r => r = .int .i64 (h p))
def cut (n : Nat) (h : Nat → Nat) (p : Nat) : Nat := if p < n then h p else 0
set_option maxRecDepth 100000 in
set_option maxHeartbeats 4000000 in
theorem made_calls {w : World} {n g : Nat} {E : Array Value} {h : Nat → Nat} (hn : n ≤ 5) (eg : ∀ args w, (callFunc g args).run Tryd.prog w = .ok (.enter g args) w) (hF : RowFn w n g E h) :
    Calls Tryd.prog 29 #[.int .i64 n, .func (.func g) #[] E] w (Post w fun _ r => r = hV n (cut n h)) := by
  have HF := Lib.hid hF
  have ex := ext_alloc' (ext_alloc w (.cells #[.int .i64 0, .int .i64 0, .int .i64 0, .int .i64 0, .int .i64 0, .int .i64 0] 24)) (.cells #[.int .i64 n, .int .i64 0, .int .i64 0, .int .i64 0, .int .i64 0, .int .i64 0] 24)
  have r1 := (Row.graph w 0 fun _ => 0).alloc (.cells #[.int .i64 n, .int .i64 0, .int .i64 0, .int .i64 0, .int .i64 0, .int .i64 0] 24)
  have r2 := Row.graph (w.alloc (.cells #[.int .i64 0, .int .i64 0, .int .i64 0, .int .i64 0, .int .i64 0, .int .i64 0] 24)) n fun _ => 0
  rw [World.size_alloc] at r2
  go_enter Tryd.func29, Tryd.ntmps29
  go_wp2
  go_loopw [6, 10] (fun _ i wr => ∃ k : Nat, k ≤ n ∧ i = .int .i64 k ∧ Below w.heap.size w wr ∧ Row wr w.heap.size 24 (gC 0 fun _ => 0) ∧ Row wr (w.heap.size + 1) 24 (gC n fun p => (cut k h p : Int))) (fun _ i _ => n - (intOf i).toNat)
  case atStart => exact ⟨0, Nat.zero_le _, rfl, ex, r1, r2.get (gC_congr fun p hp => by simp [cut])⟩
  case round =>
    clear ex r1 r2
    obtain ⟨k, hk, rfl, hb, R1, R2⟩ := hrel
    by_cases hlt : k < n
    · have q := idx_five (w.heap.size + 1) (show k < 5 by omega)
      have KF := Lib.hid (HF.out wr hb k hlt)
      go_wp2_with fail
      refine KF.out.mono ?_
      rintro _ w1 ⟨_, rfl, hb1, rfl⟩
      have hb2 := hb.trans (hb1.mono hb.size)
      have R1 := R1.ext hb1
      have R2 := R2.ext hb1
      have c0 := R2.hear (show k < 5 by omega)
      have f0 := R2.free (1 + k)
      have R3 := (R2.set (1 + k) (.int .i64 (h k : Int))).get ((gC_set (show k < 5 by omega) (h k : Int)).trans (gC_congr (g := fun p => (cut (k + 1) h p : Int)) fun p hp => by
        unfold cut
        by_cases e : p = k
        · subst e; simp
        · by_cases e2 : p < k
          · simp [e, e2, show p < k + 1 by omega]
          · simp [e, e2, show ¬ p < k + 1 by omega]))
      have R4 := R1.grown (grownBy_setCell w1 (w.heap.size + 1) (1 + k) (.int .i64 (h k : Int))) (by simp)
      have hb3 := hb2.setCell (p := ⟨w.heap.size + 1, 1 + k, none⟩) (by simp) (.int .i64 (h k : Int))
      clear KF hb hb1 hb2 R1 R2
      go_wp2
      go_roundw
      case rel => exact ⟨k + 1, by omega, by go_num, hb3, R4, R3⟩
      case measure => simp [intOf]; omega
    · obtain rfl : k = n := by omega
      obtain ⟨a0, a1, a2, a3, a4, a5⟩ := R1.six
      obtain ⟨b0, b1, b2, b3, b4, b5⟩ := R2.six
      have R3 := row_set6 R1 k (fun p => (cut k h p : Int))
      have hb2 := set6_below (.int .i64 k) (.int .i64 (cut k h 0 : Int)) (.int .i64 (cut k h 1 : Int)) (.int .i64 (cut k h 2 : Int)) (.int .i64 (cut k h 3 : Int)) (.int .i64 (cut k h 4 : Int)) hb (Nat.le_refl _)
      have f0 := R1.free 0
      have f1 := R1.free 1
      have f2 := R1.free 2
      have f3 := R1.free 3
      have f4 := R1.free 4
      have f5 := R1.free 5
      obtain ⟨d0, d1, d2, d3, d4, d5⟩ := R3.six
      go_wp2
      refine bodyPost_ret (v := .agg #[.int .i64 k, .int .i64 (cut k h 0 : Int), .int .i64 (cut k h 1 : Int), .int .i64 (cut k h 2 : Int), .int .i64 (cut k h 3 : Int), .int .i64 (cut k h 4 : Int)]) (by simp [results, Tryd.results29, go_sem, d0, d1, d2, d3, d4, d5]) rfl ?_
      exact .mk hb2 rfl
end Go.Proofs.YtmlgbaogkbfklaaDoor
