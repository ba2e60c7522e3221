/- The contracts of the examples that each statement on partitions checks, and of the reference's Join. -/
import Derived.Test.YtnmbiibchajehaaGlue
import Derived.Test.YtnmbiibchajehaaGuards
import Derived.Test.YtnmbiibchajehaaClasses2
namespace Go.Proofs.Ytnmbiibchajehaa
set_option linter.unusedVariables false
open Go.RowKit

set_option maxRecDepth 100000 in
theorem refJoin_calls {S S' : Nat → Prop} {w : World} {va vb : Value} {a b : List Int} (ha : Ints S w va a) (hb : Ints S' w vb b) :
    Calls Try.prog 35 #[va, vb] w (Post w (RetL w.heap.size (joinR a b))) := by
  go_enter Try.func35, Try.ntmps35
  go_wp2_with fail
  refine (refBoth_calls ha hb).mono ?_
  rintro _ w1 ⟨_, rfl, hb1, rfl⟩
  by_cases h1 : bothS a b = 0
  · have e1 : (bothS a b != 0) = false := by simp [h1]
    have H1 := Lib.hid h1
    clear h1
    go_wp2_with fail
    refine (refGlue_calls (ha.ext hb1) (hb.ext hb1) (bothS_len H1.out).1 (bothS_len H1.out).2).mono ?_
    rintro _ w2 ⟨v, rfl, hb2, hv⟩
    go_wp2
    go_ret2
    exact .mk (ext_trans hb1 hb2) (.mk (hv.mono (by intro b hb'; have := hb1.size; omega)) (by simp [joinR, H1.out]))
  · have e1 : (bothS a b != 0) = true := by simp [h1]
    go_wp2_with fail
    go_ret2
    exact .mk hb1 (.nil _ _ rfl (by simp [joinR, h1]))

theorem ext_alloc (w : World) (o : Obj) : Below w.heap.size w (w.alloc o) := (Below.refl _ _).alloc (Nat.le_refl _) _
theorem ext_alloc' {a w : World} (h : Below a.heap.size a w) (o : Obj) : Below a.heap.size a (w.alloc o) := h.alloc h.size _
theorem lit_ints (w : World) (B : Nat) (hB : B = w.heap.size) (l : List Int) (e : TypeId) (hl : l.length ≤ 65536) (hf : ∀ x ∈ l, -1000000000 ≤ x ∧ x ≤ 1000000000) :
    Ints (fun b => b = B) (w.alloc (.cells (l.map (Value.int .i64)).toArray e)) (.slice (some ⟨B, 0, none⟩) l.length l.length) l := by
  subst hB
  exact Row.ints (e := e) (heap_alloc_new w _) (by unfold maxLen; omega) fun x hx => WF.small (hf x hx)

theorem of_example : ofS [7, 3, 7, 5] = ([0, 1, 0, 2], 0) := by decide
theorem classes_example : classesR [0, 1, 0, 2] = ([[0, 2], [1], [3]], 0) := by decide
theorem meet_example : meetR [0, 0, 1, 1] [0, 1, 1, 1] = ([0, 1, 2, 2], 0) := by decide
theorem join_example : joinR [0, 0, 1, 1] [0, 1, 1, 1] = ([0, 0, 0, 0], 0) := by
  have h0 : bothS [0, 0, 1, 1] [0, 1, 1, 1] = 0 := by decide
  unfold joinR
  rw [if_pos h0]
  have g01 : Gen [0, 0, 1, 1] [0, 1, 1, 1] 0 1 := .base (by decide) (by decide) (.inl (by decide))
  have g12 : Gen [0, 0, 1, 1] [0, 1, 1, 1] 1 2 := .base (by decide) (by decide) (.inr (by decide))
  have g23 : Gen [0, 0, 1, 1] [0, 1, 1, 1] 2 3 := .base (by decide) (by decide) (.inl (by decide))
  have g0 : ∀ i, i < 4 → Gen [0, 0, 1, 1] [0, 1, 1, 1] 0 i := by
    intro i hi
    have : i = 0 ∨ i = 1 ∨ i = 2 ∨ i = 3 := by omega
    rcases this with rfl | rfl | rfl | rfl
    · exact .base (by decide) (by decide) (.inl rfl)
    · exact g01
    · exact g01.trans g12
    · exact (g01.trans g12).trans g23
  have := joinS_of (a := [0, 0, 1, 1]) (b := [0, 1, 1, 1]) (r := [0, 0, 0, 0]) rfl (fun i j hi hj => by
    have e : ∀ k, k < 4 → nth [0, 0, 0, 0] k = 0 := by
      intro k hk
      have : k = 0 ∨ k = 1 ∨ k = 2 ∨ k = 3 := by omega
      rcases this with rfl | rfl | rfl | rfl <;> rfl
    rw [e i hi, e j hj]
    simp only [true_iff]
    exact (g0 i hi).symm.trans (g0 j hj))
  rw [← this]
  decide

set_option maxRecDepth 100000 in
set_option maxHeartbeats 2000000 in
theorem awake_calls (w : World) : Calls Try.prog 12 #[] w (Post w fun _ r => r = .bool true) := by
  go_enter Try.func12, Try.ntmps12
  go_wp2_with fail
  have c1 := of_calls (lit_ints w _ rfl [7, 3, 7, 5] 3 (by decide) (by decide))
  rw [of_example] at c1
  refine c1.mono ?_
  rintro _ w1 ⟨_, rfl, hb1, v1, rfl, i1⟩
  have hb1' := ext_trans (ext_alloc w _) hb1
  clear c1
  go_wp2_with fail
  have c2 := classes_calls i1
  rw [classes_example] at c2
  refine c2.mono ?_
  rintro _ w2 ⟨_, rfl, hb2, v2, rfl, i2⟩
  have hb2' := ext_trans hb1' hb2
  clear c2
  go_wp2_with fail
  have c3 := meetApi_calls ((lit_ints w2 _ rfl [0, 0, 1, 1] 3 (by decide) (by decide)).ext (ext_alloc _ _)) (lit_ints (w2.alloc (.cells #[.int .i64 0, .int .i64 0, .int .i64 1, .int .i64 1] 3)) (w2.heap.size + 1) (by simp) [0, 1, 1, 1] 3 (by decide) (by decide))
  rw [meet_example] at c3
  refine c3.mono ?_
  rintro _ w3 ⟨_, rfl, hb3, v3, rfl, i3⟩
  have hb3' := ext_trans (ext_alloc' (ext_alloc w2 _) _) hb3
  clear c3
  go_wp2_with fail
  have c4 := join_calls ((lit_ints w3 _ rfl [0, 0, 1, 1] 3 (by decide) (by decide)).ext (ext_alloc _ _)) (lit_ints (w3.alloc (.cells #[.int .i64 0, .int .i64 0, .int .i64 1, .int .i64 1] 3)) (w3.heap.size + 1) (by simp) [0, 1, 1, 1] 3 (by decide) (by decide))
  rw [join_example] at c4
  refine c4.mono ?_
  rintro _ w4 ⟨_, rfl, hb4, v4, rfl, i4⟩
  have hb4' := ext_trans (ext_alloc' (ext_alloc w3 _) _) hb4
  clear c4
  have i1a := ((i1.ext hb2).ext hb3').ext hb4'
  have i2a := (i2.ext hb3').ext hb4'
  have i3a := i3.ext hb4'
  have hbd := ext_trans hb2' (ext_trans hb3' hb4')
  clear i1 i2 i3 hb1 hb2 hb3 hb4 hb1' hb2' hb3' hb4'
  go_wp2_with fail
  refine (equal_calls (i1a.ext (ext_alloc _ _)) (lit_ints w4 _ rfl [0, 1, 0, 2] 3 (by decide) (by decide))).mono ?_
  rintro _ w5 ⟨_, rfl, hb5, rfl⟩
  have hb5' := ext_trans (ext_alloc w4 _) hb5
  rw [show decide (([0, 1, 0, 2] : List Int) = [0, 1, 0, 2]) = true from by decide]
  go_wp2_with fail
  have k1 := ((lit_ints w5 _ rfl [0, 2] 3 (by decide) (by decide)).ext (ext_alloc' (ext_alloc _ (.cells #[.int .i64 1] 3)) (.cells #[.int .i64 3] 3))).all
  have k2 := ((lit_ints (w5.alloc (.cells #[.int .i64 0, .int .i64 2] 3)) (w5.heap.size + 1) (by simp) [1] 3 (by decide) (by decide)).ext (ext_alloc _ (.cells #[.int .i64 3] 3))).all
  have k3 := (lit_ints ((w5.alloc (.cells #[.int .i64 0, .int .i64 2] 3)).alloc (.cells #[.int .i64 1] 3)) (w5.heap.size + 1 + 1) (by simp) [3] 3 (by decide) (by decide)).all
  have L := lit_lists (((w5.alloc (.cells #[.int .i64 0, .int .i64 2] 3)).alloc (.cells #[.int .i64 1] 3)).alloc (.cells #[.int .i64 3] 3)) (w5.heap.size + 1 + 1 + 1) (by simp)
    [.slice (some ⟨w5.heap.size, 0, none⟩) 2 2, .slice (some ⟨w5.heap.size + 1, 0, none⟩) 1 1, .slice (some ⟨w5.heap.size + 1 + 1, 0, none⟩) 1 1] [[0, 2], [1], [3]] 22 ⟨k1, k2, k3, trivial⟩ (by decide)
  have hb6 := ext_alloc' (ext_alloc' (ext_alloc' (ext_alloc w5 (.cells #[.int .i64 0, .int .i64 2] 3)) (.cells #[.int .i64 1] 3)) (.cells #[.int .i64 3] 3)) (.cells #[.slice (some ⟨w5.heap.size, 0, none⟩) 2 2, .slice (some ⟨w5.heap.size + 1, 0, none⟩) 1 1, .slice (some ⟨w5.heap.size + 1 + 1, 0, none⟩) 1 1] 22)
  refine (sameLists_calls ((i2a.ext hb5').ext hb6) L).mono ?_
  rintro _ w6 ⟨_, rfl, hb6', rfl⟩
  rw [show decide (([[0, 2], [1], [3]] : List (List Int)) = [[0, 2], [1], [3]]) = true from by decide]
  have hb7 := ext_trans hb5' (ext_trans hb6 hb6')
  have i3b := i3a.ext hb7
  have i4b := i4.ext hb7
  have hbe := ext_trans hbd hb7
  clear k1 k2 k3 L hb5 hb5' hb6 hb6' hb7 i1a i2a i3a i4 hbd
  go_wp2_with fail
  refine (equal_calls (i3b.ext (ext_alloc _ _)) (lit_ints w6 _ rfl [0, 1, 2, 2] 3 (by decide) (by decide))).mono ?_
  rintro _ w7 ⟨_, rfl, hb7, rfl⟩
  have hb7' := ext_trans (ext_alloc w6 _) hb7
  rw [show decide (([0, 1, 2, 2] : List Int) = [0, 1, 2, 2]) = true from by decide]
  go_wp2_with fail
  refine (equal_calls ((i4b.ext hb7').ext (ext_alloc _ _)) (lit_ints w7 _ rfl [0, 0, 0, 0] 3 (by decide) (by decide))).mono ?_
  rintro _ w8 ⟨_, rfl, hb8, rfl⟩
  have hb8' := ext_trans (ext_alloc w7 _) hb8
  rw [show decide (([0, 0, 0, 0] : List Int) = [0, 0, 0, 0]) = true from by decide]
  go_wp2_with fail
  refine (check_calls (lit_ints w8 _ rfl [0, 2] 3 (by decide) (by decide))).mono ?_
  rintro _ w9 ⟨_, rfl, hb9, rfl⟩
  have hb9' := ext_trans (ext_alloc w8 _) hb9
  rw [show checkS [0, 2] = 14 from by decide]
  go_wp2_with fail
  refine (check_calls (lit_ints w9 _ rfl [1] 3 (by decide) (by decide))).mono ?_
  rintro _ w10 ⟨_, rfl, hb10, rfl⟩
  have hb10' := ext_trans (ext_alloc w9 _) hb10
  rw [show checkS [1] = 14 from by decide]
  go_wp2_with fail
  go_ret
  exact .mk (ext_trans hbe (ext_trans hb7' (ext_trans hb8' (ext_trans hb9' hb10')))) rfl
end Go.Proofs.Ytnmbiibchajehaa
