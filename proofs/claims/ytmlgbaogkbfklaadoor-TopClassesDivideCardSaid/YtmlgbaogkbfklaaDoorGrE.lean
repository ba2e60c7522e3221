/- Silent and complete graphs, unions, graphs inside of others. -/
import Derived.Test.YtmlgbaogkbfklaaDoorGrD
namespace Go.Proofs.YtmlgbaogkbfklaaDoor
set_option linter.unusedVariables false
open Go.RowKit
attribute [local go_sem ↓] Go.wp_at_zero Go.wp_at_succ

theorem RowFn.ext {w w' : World} {n g : Nat} {E : Array Value} {h : Nat → Nat} (H : RowFn w n g E h) (hb : Below w.heap.size w w') : RowFn w' n g E h := fun W hW p hp => H W (ext_trans hb hW) p hp
theorem hV_congr {n : Nat} {h h' : Nat → Nat} (H : ∀ p, p < 5 → h p = h' p) : hV n h = hV n h' := gV_congr fun p hp => by rw [H p hp]
set_option maxRecDepth 100000 in
theorem sized_calls {w : World} {n g : Nat} {E : Array Value} {h : Nat → Nat} (h1 : 1 ≤ n) (hn : n ≤ 5) (eg : ∀ args w, (callFunc g args).run Tryd.prog w = .ok (.enter g args) w) (hF : RowFn w n g E h) :
    Calls Tryd.prog 32 #[.int .i64 n, .func (.func g) #[] E] w (Post w fun _ r => r = .tuple #[hV n (cut n h), .int .i64 0]) := by
  have ex := ext_alloc w (.cells #[.int .i64 0, .int .i64 0, .int .i64 0, .int .i64 0, .int .i64 0, .int .i64 0] 24)
  have r1 := Row.graph w 0 fun _ => 0
  have KM := Lib.hid (made_calls hn eg (hF.ext ex))
  clear hF eg
  unfold hV gV at KM ⊢
  go_enter Tryd.func32, Tryd.ntmps32
  go_wp2_with fail
  refine KM.out.mono ?_
  rintro _ w1 ⟨_, rfl, hb1, rfl⟩
  have R1 := r1.ext hb1
  have ex1 := ext_trans ex hb1
  obtain ⟨a0, a1, a2, a3, a4, a5⟩ := R1.six
  have R3 := row_set6 R1 n (fun p => (cut n h p : Int))
  have hb2 := set6_below (.int .i64 n) (.int .i64 (cut n h 0 : Int)) (.int .i64 (cut n h 1 : Int)) (.int .i64 (cut n h 2 : Int)) (.int .i64 (cut n h 3 : Int)) (.int .i64 (cut n h 4 : Int)) ex1 (Nat.le_refl _)
  have f0 := R1.free 0
  have f1 := R1.free 1
  have f2 := R1.free 2
  have f3 := R1.free 3
  have f4 := R1.free 4
  have f5 := R1.free 5
  obtain ⟨d0, d1, d2, d3, d4, d5⟩ := R3.six
  go_wp2
  refine bodyPost_ret (v := .tuple #[.agg #[.int .i64 n, .int .i64 (cut n h 0 : Int), .int .i64 (cut n h 1 : Int), .int .i64 (cut n h 2 : Int), .int .i64 (cut n h 3 : Int), .int .i64 (cut n h 4 : Int)], .int .i64 0]) (by simp [results, Tryd.results32, go_sem, d0, d1, d2, d3, d4, d5]) rfl ?_
  exact .mk hb2 rfl
theorem silent1_calls (w : World) {p : Nat} (hp : p < 5) : Calls Tryd.prog 33 #[.int .i64 p] w (Post w fun _ r => r = .int .i64 ((2 ^ p : Nat) : Int)) := by
  go_enter Tryd.func33, Tryd.ntmps33
  go_wp2
  go_ret
  refine .same (int_eq ?_)
  rcases five hp with rfl | rfl | rfl | rfl | rfl <;> decide +kernel
set_option maxRecDepth 100000 in
theorem silent_calls (w : World) {n : Nat} (h1 : 1 ≤ n) (hn : n ≤ 5) : Calls Tryd.prog 12 #[.int .i64 n] w (Post w fun _ r => r = .tuple #[hV n (cut n fun p => 2 ^ p), .int .i64 0]) := by
  have ex := ext_alloc w (.cells #[.int .i64 0, .int .i64 0, .int .i64 0, .int .i64 0, .int .i64 0, .int .i64 0] 24)
  have r1 := Row.graph w 0 fun _ => 0
  have eg : ∀ args w, (callFunc 33 args).run Tryd.prog w = .ok (.enter 33 args) w := fun args w => by rfl
  have KM := Lib.hid (sized_calls (w := w.alloc (.cells #[.int .i64 0, .int .i64 0, .int .i64 0, .int .i64 0, .int .i64 0, .int .i64 0] 24)) (E := #[]) (h := fun p => 2 ^ p) h1 hn eg fun W _ p hp => silent1_calls W (by omega))
  clear eg
  obtain ⟨c, hc⟩ : ∃ c, c = cut n fun p => 2 ^ p := ⟨_, rfl⟩
  rw [← hc] at KM ⊢
  clear hc
  unfold hV gV at KM ⊢
  go_enter Tryd.func12, Tryd.ntmps12
  go_wp2_with fail
  refine KM.out.mono ?_
  rintro _ w1 ⟨_, rfl, hb1, rfl⟩
  have R1 := r1.ext hb1
  have ex1 := ext_trans ex hb1
  obtain ⟨a0, a1, a2, a3, a4, a5⟩ := R1.six
  have R3 := row_set6 R1 n (fun p => (c p : Int))
  have hb2 := set6_below (.int .i64 n) (.int .i64 (c 0 : Int)) (.int .i64 (c 1 : Int)) (.int .i64 (c 2 : Int)) (.int .i64 (c 3 : Int)) (.int .i64 (c 4 : Int)) ex1 (Nat.le_refl _)
  have f0 := R1.free 0
  have f1 := R1.free 1
  have f2 := R1.free 2
  have f3 := R1.free 3
  have f4 := R1.free 4
  have f5 := R1.free 5
  obtain ⟨d0, d1, d2, d3, d4, d5⟩ := R3.six
  go_wp2
  refine bodyPost_ret (v := .tuple #[.agg #[.int .i64 n, .int .i64 (c 0 : Int), .int .i64 (c 1 : Int), .int .i64 (c 2 : Int), .int .i64 (c 3 : Int), .int .i64 (c 4 : Int)], .int .i64 0]) (by simp [results, Tryd.results12, go_sem, d0, d1, d2, d3, d4, d5]) rfl ?_
  exact .mk hb2 rfl
theorem complete1_calls {w : World} {B n : Nat} (hn : n ≤ 5) (hB : w.cell? ⟨B, 0, none⟩ = some (.int .i64 n)) (p : Nat) : Calls Tryd.prog 47 #[.int .i64 p, .pointer (some ⟨B, 0, none⟩)] w (Post w fun _ r => r = .int .i64 ((2 ^ n - 1 : Nat) : Int)) := by
  have K := Lib.hid fun W => ((full_quiet W hn).mono fun _ _ h => h.take)
  have hz := pow_small hn
  obtain ⟨z, hzz⟩ : ∃ z, z = 2 ^ n := ⟨_, rfl⟩
  rw [← hzz] at K hz ⊢
  clear hzz
  obtain ⟨hz1, hz2⟩ := hz
  go_enter Tryd.func47, Tryd.ntmps47
  go_wp2_with fail
  refine (K.out _).mono ?_
  rintro _ w1 ⟨_, rfl, hq1, rfl⟩
  go_wp2
  go_ret
  exact .mk hq1.ext (int_eq (by omega))
set_option maxRecDepth 100000 in
theorem complete_calls (w : World) {n : Nat} (h1 : 1 ≤ n) (hn : n ≤ 5) : Calls Tryd.prog 26 #[.int .i64 n] w (Post w fun _ r => r = .tuple #[hV n (cut n fun _ => 2 ^ n - 1), .int .i64 0]) := by
  have ex := ext_alloc' (ext_alloc w (.cells #[.int .i64 n] 3)) (.cells #[.int .i64 0, .int .i64 0, .int .i64 0, .int .i64 0, .int .i64 0, .int .i64 0] 24)
  have r0 := (row_new w [.int .i64 n] 3).alloc (.cells #[.int .i64 0, .int .i64 0, .int .i64 0, .int .i64 0, .int .i64 0, .int .i64 0] 24)
  have r1 := Row.graph (w.alloc (.cells #[.int .i64 n] 3)) 0 fun _ => 0
  rw [World.size_alloc] at r1
  have c0 := r0.cell (j := 0) rfl
  have eg : ∀ args w, (callFunc 47 args).run Tryd.prog w = .ok (.enter 47 args) w := fun args w => by rfl
  have KM := Lib.hid (sized_calls (E := #[.pointer (some ⟨w.heap.size, 0, none⟩)]) (h := fun _ => 2 ^ n - 1) h1 hn eg fun W hW p hp => complete1_calls hn (cell_ext c0 hW) p)
  clear eg
  obtain ⟨c, hc⟩ : ∃ c, c = cut n fun p => 2 ^ n - 1 := ⟨_, rfl⟩
  rw [← hc] at KM ⊢
  clear hc
  unfold hV gV at KM ⊢
  go_enter Tryd.func26, Tryd.ntmps26
  go_wp2_with fail
  refine KM.out.mono ?_
  rintro _ w1 ⟨_, rfl, hb1, rfl⟩
  have R1 := r1.ext hb1
  have ex1 := ext_trans ex hb1
  obtain ⟨a0, a1, a2, a3, a4, a5⟩ := R1.six
  have R3 := row_set6 R1 n (fun p => (c p : Int))
  have hb2 := set6_below (g := w.heap.size + 1) (.int .i64 n) (.int .i64 (c 0 : Int)) (.int .i64 (c 1 : Int)) (.int .i64 (c 2 : Int)) (.int .i64 (c 3 : Int)) (.int .i64 (c 4 : Int)) ex1 (by omega)
  have f0 := R1.free 0
  have f1 := R1.free 1
  have f2 := R1.free 2
  have f3 := R1.free 3
  have f4 := R1.free 4
  have f5 := R1.free 5
  obtain ⟨d0, d1, d2, d3, d4, d5⟩ := R3.six
  clear c0
  go_wp2
  refine bodyPost_ret (v := .tuple #[.agg #[.int .i64 n, .int .i64 (c 0 : Int), .int .i64 (c 1 : Int), .int .i64 (c 2 : Int), .int .i64 (c 3 : Int), .int .i64 (c 4 : Int)], .int .i64 0]) (by simp [results, Tryd.results26, go_sem, d0, d1, d2, d3, d4, d5]) rfl ?_
  exact .mk hb2 rfl
end Go.Proofs.YtmlgbaogkbfklaaDoor
