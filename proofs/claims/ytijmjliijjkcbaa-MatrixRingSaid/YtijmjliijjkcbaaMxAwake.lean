/- The examples that each statement on matrices checks. Printed by awk05.py. -/
import Derived.Test.YtijmjliijjkcbaaMxAwake0
import Derived.Test.YtijmjliijjkcbaaSlices
namespace Go.Proofs.Ytijmjliijjkcbaa
set_option linter.unusedVariables false
open Go.RowKit
attribute [local go_sem ↓] Go.wp_at_zero Go.wp_at_succ

theorem Post.imp {w w' : World} {R R' : World → Value → Prop} {e : Ending} (h : Post w R e w') (hi : ∀ w' r, R w' r → R' w' r) : Post w R' e w' := by
  obtain ⟨r, rfl, hb, hr⟩ := h; exact ⟨r, rfl, hb, hi _ _ hr⟩
abbrev TT : Nat → Prop := fun _ => True
theorem RetM.lit {base : Nat} {x : Mx × Int} {w' : World} {r : Value} {c e : Int} {ll : List (List Int)} {n : Nat} (h : RetM base x w' r) (hx : x = (⟨c, ll⟩, e)) (hn : n = ll.length) :
    ∃ a cap, r = .tuple #[.agg #[.int .i64 c, .slice a n cap], .int .i64 e] ∧ MatV TT w' (.agg #[.int .i64 c, .slice a n cap]) ⟨c, ll⟩ := by
  subst hx hn
  obtain ⟨mv, rfl, rv, rfl, hl⟩ := h
  have hl := hl.mono (S' := TT) fun _ _ => trivial
  obtain ⟨a, cap, rfl, _⟩ := hl.form
  exact ⟨a, cap, rfl, _, rfl, hl⟩
theorem RetSol.lit {base : Nat} {t : (List Int × List Int) × (Bool × Int)} {w' : World} {r : Value} {x y : List Int} {q : Bool} {e : Int} {n k : Nat} (h : RetSol base t w' r) (hx : t = ((x, y), (q, e))) (hn : n = x.length) (hk : k = y.length) :
    ∃ a c b d, r = .tuple #[.slice a n c, .slice b k d, .bool q, .int .i64 e] ∧ Ints TT w' (.slice a n c) x ∧ Ints TT w' (.slice b k d) y := by
  subst hx hn hk
  obtain ⟨vx, vy, rfl, h1, h2⟩ := h
  have h1 := h1.mono (S' := TT) fun _ _ => trivial
  have h2 := h2.mono (S' := TT) fun _ _ => trivial
  obtain ⟨a, c, rfl, _⟩ := h1.form
  obtain ⟨b, d, rfl, _⟩ := h2.form
  exact ⟨a, c, b, d, rfl, h1, h2⟩
theorem example_lit (w : World) : Calls Try.prog 47 #[] w (Post w fun w' r => ∃ a cap, r = .agg #[.int .i64 4, .slice a 4 cap] ∧ MatV TT w' (.agg #[.int .i64 4, .slice a 4 cap]) exM) := by
  refine (example_calls w).mono fun _ _ h => h.imp ?_
  rintro w' r ⟨rv, rfl, hl⟩
  have hl := hl.mono (S' := TT) fun _ _ => trivial
  obtain ⟨a, cap, rfl, _⟩ := hl.form
  exact ⟨a, cap, rfl, _, rfl, hl⟩
theorem ech_lit {S : Nat → Prop} {w : World} {va : Value} (ha : MatV S w va exM) : Calls Try.prog 16 #[va] w (Post w fun w' r => ∃ a cap, r = .tuple #[.agg #[.int .i64 4, .slice a 3 cap], .int .i64 0] ∧ MatV TT w' (.agg #[.int .i64 4, .slice a 3 cap]) ⟨4, [[0, 2], [1, 2], [3]]⟩) :=
  (echelonM_calls ha).mono fun _ _ h => h.imp fun _ _ h => h.lit ech_ex rfl
theorem rank_lit {S : Nat → Prop} {w : World} {va : Value} (ha : MatV S w va exM) : Calls Try.prog 18 #[va] w (Post w fun _ r => r = .tuple #[.int .i64 3, .int .i64 0]) :=
  (rank_calls ha).mono fun _ _ h => h.imp fun _ r h => by rw [h, ech_ex]; rfl
theorem ker_lit {S : Nat → Prop} {w : World} {va : Value} (ha : MatV S w va exM) : Calls Try.prog 20 #[va] w (Post w fun w' r => ∃ a cap, r = .tuple #[.agg #[.int .i64 4, .slice a 1 cap], .int .i64 0] ∧ MatV TT w' (.agg #[.int .i64 4, .slice a 1 cap]) ⟨4, [[0, 1, 2]]⟩) :=
  (kernel_calls ha).mono fun _ _ h => h.imp fun _ _ h => h.lit ker_ex rfl
theorem trans_lit {S : Nat → Prop} {w : World} {va : Value} (ha : MatV S w va exM) : Calls Try.prog 37 #[va] w (Post w fun w' r => ∃ a cap, r = .tuple #[.agg #[.int .i64 4, .slice a 4 cap], .int .i64 0] ∧ MatV TT w' (.agg #[.int .i64 4, .slice a 4 cap]) ⟨4, [[0, 2], [0, 1], [1, 2], [3]]⟩) :=
  (transpose_calls ha).mono fun _ _ h => h.imp fun _ _ h => h.lit trans_ex rfl
theorem sol_lit1 {S S' : Nat → Prop} {w : World} {va vb : Value} (ha : MatV S w va exM) (hb : Ints S' w vb [0, 1, 3]) : Calls Try.prog 23 #[va, vb] w (Post w fun w' r => ∃ a c b d, r = .tuple #[.slice a 2 c, .slice b 0 d, .bool true, .int .i64 0] ∧ Ints TT w' (.slice a 2 c) [1, 3] ∧ Ints TT w' (.slice b 0 d) []) :=
  (solve_calls ha hb).mono fun _ _ h => h.imp fun _ _ h => h.lit sol_ex1 rfl rfl
theorem sol_lit2 {S S' : Nat → Prop} {w : World} {va vb : Value} (ha : MatV S w va exM) (hb : Ints S' w vb [0]) : Calls Try.prog 23 #[va, vb] w (Post w fun w' r => ∃ a c b d, r = .tuple #[.slice a 0 c, .slice b 3 d, .bool false, .int .i64 0] ∧ Ints TT w' (.slice a 0 c) [] ∧ Ints TT w' (.slice b 3 d) [0, 1, 2]) :=
  (solve_calls ha hb).mono fun _ _ h => h.imp fun _ _ h => h.lit sol_ex2 rfl rfl
theorem ver_lit1 {S S' S2 : Nat → Prop} {w : World} {va vb vy : Value} (ha : MatV S w va exM) (hb : Ints S' w vb [0]) (hy : Ints S2 w vy [0, 1, 2]) : Calls Try.prog 27 #[va, vb, vy] w (Post w fun _ r => r = .int .i64 0) :=
  (verify_calls ha hb hy).mono fun _ _ h => h.imp fun _ r h => by rw [h, ver_ex1]
theorem ver_lit2 {S S' S2 : Nat → Prop} {w : World} {va vb vy : Value} (ha : MatV S w va exM) (hb : Ints S' w vb [0, 1, 3]) (hy : Ints S2 w vy [0, 1, 2]) : Calls Try.prog 27 #[va, vb, vy] w (Post w fun _ r => r = .int .i64 18) :=
  (verify_calls ha hb hy).mono fun _ _ h => h.imp fun _ r h => by rw [h, ver_ex2]
theorem sameM_lit {S S' : Nat → Prop} {w : World} {va vb : Value} {a b : Mx} (ha : MatV S w va a) (hb : MatV S' w vb b) (e : a = b) : Calls Try.prog 22 #[va, vb] w (Post w fun _ r => r = .bool true) :=
  (same_calls ha hb).mono fun _ _ h => h.imp fun _ r h => by rw [h, sameM_iff.2 e]
theorem equal_lit {S S' : Nat → Prop} {w : World} {va vb : Value} {a b : List Int} (ha : Ints S w va a) (hb : Ints S' w vb b) (e : a = b) : Calls Try.prog 25 #[va, vb] w (Post w fun _ r => r = .bool true) :=
  (equal_calls ha hb).mono fun _ _ h => h.imp fun _ r h => by rw [h, decide_eq_true e]

set_option maxRecDepth 100000 in
set_option maxHeartbeats 4000000 in
theorem awake_calls (w : World) : Calls Try.prog 15 #[] w (Post w fun _ r => r = .bool true) := by
  go_enter Try.func15, Try.ntmps15
  have KK := Lib.hid (example_lit w)
  go_wp2_with fail
  refine KK.out.mono ?_
  rintro _ w1 ⟨_, rfl, hb1, a1, c1, rfl, hm⟩
  clear KK
  have hy1 := hb1
  have HB := hy1
  clear hb1 hy1
  have ex2 := ext_alloc w1 (.cells #[.int .i64 4, .slice a1 4 c1] 24)
  have hmx := hm.ext ex2
  have R1 := row_new w1 [.int .i64 4, .slice a1 4 c1] 24
  have KK := Lib.hid (ech_lit hmx)
  go_wp2_with fail
  refine KK.out.mono ?_
  rintro _ w2 ⟨_, rfl, hb2, a2, c2, rfl, hr⟩
  clear KK
  have hy2 := ext_trans ex2 hb2
  replace hm := hm.ext hy2
  replace R1 := R1.ext hb2
  clear hmx
  replace HB := ext_trans HB hy2
  clear hb2 hy2 ex2
  have ex3 := ext_alloc w2 (.cells #[.int .i64 4, .slice a2 3 c2] 24)
  have hmx := hm.ext ex3
  have hrx := hr.ext ex3
  have R2 := row_new w2 [.int .i64 4, .slice a2 3 c2] 24
  have R1x := R1.ext ex3
  have KK := Lib.hid (rank_lit hmx)
  obtain ⟨R1a, R1b⟩ := R1x.two
  go_wp2_with fail
  refine KK.out.mono ?_
  rintro _ w3 ⟨_, rfl, hb3, rfl⟩
  clear KK
  have hy3 := ext_trans ex3 hb3
  replace hm := hm.ext hy3
  replace hr := hr.ext hy3
  replace R1 := R1.ext hy3
  replace R2 := R2.ext hb3
  clear hmx hrx R1x R1a R1b
  replace HB := ext_trans HB hy3
  clear hb3 hy3 ex3
  obtain ⟨R1a, R1b⟩ := R1.two
  obtain ⟨R2a, R2b⟩ := R2.two
  have KK := Lib.hid (ker_lit hm)
  go_wp2_with fail
  refine KK.out.mono ?_
  rintro _ w4 ⟨_, rfl, hb4, a3, c3, rfl, hk⟩
  clear KK
  have hy4 := hb4
  replace hm := hm.ext hy4
  replace hr := hr.ext hy4
  replace R1 := R1.ext hy4
  replace R2 := R2.ext hy4
  clear R1a R1b R2a R2b hb4
  replace HB := ext_trans HB hy4
  clear hy4
  have ex5 := ext_alloc w4 (.cells #[.int .i64 4, .slice a3 1 c3] 24)
  have hmx := hm.ext ex5
  have hrx := hr.ext ex5
  have hkx := hk.ext ex5
  have R3 := row_new w4 [.int .i64 4, .slice a3 1 c3] 24
  have R1x := R1.ext ex5
  have R2x := R2.ext ex5
  have KK := Lib.hid (trans_lit hmx)
  obtain ⟨R1a, R1b⟩ := R1x.two
  obtain ⟨R2a, R2b⟩ := R2x.two
  go_wp2_with fail
  refine KK.out.mono ?_
  rintro _ w5 ⟨_, rfl, hb5, a4, c4, rfl, ht⟩
  clear KK
  have hy5 := ext_trans ex5 hb5
  replace hm := hm.ext hy5
  replace hr := hr.ext hy5
  replace hk := hk.ext hy5
  replace R1 := R1.ext hy5
  replace R2 := R2.ext hy5
  replace R3 := R3.ext hb5
  clear hmx hrx hkx R1x R2x R1a R1b R2a R2b
  replace HB := ext_trans HB hy5
  clear hb5 hy5 ex5
  have R4 := row_new w5 [.int .i64 4, .slice a4 4 c4] 24
  have R4y := R4.ext (ext_alloc' (ext_alloc' (ext_alloc' (ext_alloc (w5.alloc (.cells #[.int .i64 4, .slice a4 4 c4] 24)) (.cells #[.int .i64 0, .int .i64 2] 3)) (.cells #[.int .i64 1, .int .i64 2] 3)) (.cells #[.int .i64 3] 3)) (.cells #[.slice (some ⟨w5.heap.size + 1, 0, none⟩) 2 2, .slice (some ⟨w5.heap.size + 1 + 1, 0, none⟩) 2 2, .slice (some ⟨w5.heap.size + 1 + 1 + 1, 0, none⟩) 1 1] 38))
  have ex6 := ext_alloc' (ext_alloc' (ext_alloc' (ext_alloc' (ext_alloc w5 (.cells #[.int .i64 4, .slice a4 4 c4] 24)) (.cells #[.int .i64 0, .int .i64 2] 3)) (.cells #[.int .i64 1, .int .i64 2] 3)) (.cells #[.int .i64 3] 3)) (.cells #[.slice (some ⟨w5.heap.size + 1, 0, none⟩) 2 2, .slice (some ⟨w5.heap.size + 1 + 1, 0, none⟩) 2 2, .slice (some ⟨w5.heap.size + 1 + 1 + 1, 0, none⟩) 1 1] 38)
  have hmx := hm.ext ex6
  have hrx := hr.ext ex6
  have hkx := hk.ext ex6
  have htx := ht.ext ex6
  have R1x := R1.ext ex6
  have R2x := R2.ext ex6
  have R3x := R3.ext ex6
  have k0 : Ints TT ((w5.alloc (.cells #[.int .i64 4, .slice a4 4 c4] 24)).alloc (.cells #[.int .i64 0, .int .i64 2] 3)) (.slice (some ⟨w5.heap.size + 1, 0, none⟩) 2 2) [0, 2] := lit_intsS (S := TT) (w5.alloc (.cells #[.int .i64 4, .slice a4 4 c4] 24)) (w5.heap.size + 1) (by simp) trivial [0, 2] 3 (by decide) (by decide)
  replace k0 := k0.ext (ext_alloc ((w5.alloc (.cells #[.int .i64 4, .slice a4 4 c4] 24)).alloc (.cells #[.int .i64 0, .int .i64 2] 3)) (.cells #[.int .i64 1, .int .i64 2] 3))
  replace k0 := k0.ext (ext_alloc (((w5.alloc (.cells #[.int .i64 4, .slice a4 4 c4] 24)).alloc (.cells #[.int .i64 0, .int .i64 2] 3)).alloc (.cells #[.int .i64 1, .int .i64 2] 3)) (.cells #[.int .i64 3] 3))
  have k1 : Ints TT (((w5.alloc (.cells #[.int .i64 4, .slice a4 4 c4] 24)).alloc (.cells #[.int .i64 0, .int .i64 2] 3)).alloc (.cells #[.int .i64 1, .int .i64 2] 3)) (.slice (some ⟨w5.heap.size + 1 + 1, 0, none⟩) 2 2) [1, 2] := lit_intsS (S := TT) ((w5.alloc (.cells #[.int .i64 4, .slice a4 4 c4] 24)).alloc (.cells #[.int .i64 0, .int .i64 2] 3)) (w5.heap.size + 1 + 1) (by simp) trivial [1, 2] 3 (by decide) (by decide)
  replace k1 := k1.ext (ext_alloc (((w5.alloc (.cells #[.int .i64 4, .slice a4 4 c4] 24)).alloc (.cells #[.int .i64 0, .int .i64 2] 3)).alloc (.cells #[.int .i64 1, .int .i64 2] 3)) (.cells #[.int .i64 3] 3))
  have k2 : Ints TT ((((w5.alloc (.cells #[.int .i64 4, .slice a4 4 c4] 24)).alloc (.cells #[.int .i64 0, .int .i64 2] 3)).alloc (.cells #[.int .i64 1, .int .i64 2] 3)).alloc (.cells #[.int .i64 3] 3)) (.slice (some ⟨w5.heap.size + 1 + 1 + 1, 0, none⟩) 1 1) [3] := lit_intsS (S := TT) (((w5.alloc (.cells #[.int .i64 4, .slice a4 4 c4] 24)).alloc (.cells #[.int .i64 0, .int .i64 2] 3)).alloc (.cells #[.int .i64 1, .int .i64 2] 3)) (w5.heap.size + 1 + 1 + 1) (by simp) trivial [3] 3 (by decide) (by decide)
  have L1 : Lists TT (((((w5.alloc (.cells #[.int .i64 4, .slice a4 4 c4] 24)).alloc (.cells #[.int .i64 0, .int .i64 2] 3)).alloc (.cells #[.int .i64 1, .int .i64 2] 3)).alloc (.cells #[.int .i64 3] 3)).alloc (.cells #[.slice (some ⟨w5.heap.size + 1, 0, none⟩) 2 2, .slice (some ⟨w5.heap.size + 1 + 1, 0, none⟩) 2 2, .slice (some ⟨w5.heap.size + 1 + 1 + 1, 0, none⟩) 1 1] 38)) (.slice (some ⟨w5.heap.size + 1 + 1 + 1 + 1, 0, none⟩) 3 3) [[0, 2], [1, 2], [3]] := lit_listsS (S := TT) ((((w5.alloc (.cells #[.int .i64 4, .slice a4 4 c4] 24)).alloc (.cells #[.int .i64 0, .int .i64 2] 3)).alloc (.cells #[.int .i64 1, .int .i64 2] 3)).alloc (.cells #[.int .i64 3] 3)) (w5.heap.size + 1 + 1 + 1 + 1) (by simp) [.slice (some ⟨w5.heap.size + 1, 0, none⟩) 2 2, .slice (some ⟨w5.heap.size + 1 + 1, 0, none⟩) 2 2, .slice (some ⟨w5.heap.size + 1 + 1 + 1, 0, none⟩) 1 1] [[0, 2], [1, 2], [3]] 38 trivial ⟨k0, k1, k2, trivial⟩ (by decide)
  clear k0 k1 k2
  obtain ⟨R1a, R1b⟩ := R1.two
  obtain ⟨R1xa, R1xb⟩ := R1x.two
  obtain ⟨R1y1a, R1y1b⟩ := (R1.ext (ext_alloc w5 (.cells #[.int .i64 4, .slice a4 4 c4] 24))).two
  obtain ⟨R1y2a, R1y2b⟩ := (R1.ext (ext_alloc' (ext_alloc w5 (.cells #[.int .i64 4, .slice a4 4 c4] 24)) (.cells #[.int .i64 0, .int .i64 2] 3))).two
  obtain ⟨R1y3a, R1y3b⟩ := (R1.ext (ext_alloc' (ext_alloc' (ext_alloc w5 (.cells #[.int .i64 4, .slice a4 4 c4] 24)) (.cells #[.int .i64 0, .int .i64 2] 3)) (.cells #[.int .i64 1, .int .i64 2] 3))).two
  obtain ⟨R1y4a, R1y4b⟩ := (R1.ext (ext_alloc' (ext_alloc' (ext_alloc' (ext_alloc w5 (.cells #[.int .i64 4, .slice a4 4 c4] 24)) (.cells #[.int .i64 0, .int .i64 2] 3)) (.cells #[.int .i64 1, .int .i64 2] 3)) (.cells #[.int .i64 3] 3))).two
  obtain ⟨R2a, R2b⟩ := R2.two
  obtain ⟨R2xa, R2xb⟩ := R2x.two
  obtain ⟨R2y1a, R2y1b⟩ := (R2.ext (ext_alloc w5 (.cells #[.int .i64 4, .slice a4 4 c4] 24))).two
  obtain ⟨R2y2a, R2y2b⟩ := (R2.ext (ext_alloc' (ext_alloc w5 (.cells #[.int .i64 4, .slice a4 4 c4] 24)) (.cells #[.int .i64 0, .int .i64 2] 3))).two
  obtain ⟨R2y3a, R2y3b⟩ := (R2.ext (ext_alloc' (ext_alloc' (ext_alloc w5 (.cells #[.int .i64 4, .slice a4 4 c4] 24)) (.cells #[.int .i64 0, .int .i64 2] 3)) (.cells #[.int .i64 1, .int .i64 2] 3))).two
  obtain ⟨R2y4a, R2y4b⟩ := (R2.ext (ext_alloc' (ext_alloc' (ext_alloc' (ext_alloc w5 (.cells #[.int .i64 4, .slice a4 4 c4] 24)) (.cells #[.int .i64 0, .int .i64 2] 3)) (.cells #[.int .i64 1, .int .i64 2] 3)) (.cells #[.int .i64 3] 3))).two
  obtain ⟨R3a, R3b⟩ := R3.two
  obtain ⟨R3xa, R3xb⟩ := R3x.two
  obtain ⟨R3y1a, R3y1b⟩ := (R3.ext (ext_alloc w5 (.cells #[.int .i64 4, .slice a4 4 c4] 24))).two
  obtain ⟨R3y2a, R3y2b⟩ := (R3.ext (ext_alloc' (ext_alloc w5 (.cells #[.int .i64 4, .slice a4 4 c4] 24)) (.cells #[.int .i64 0, .int .i64 2] 3))).two
  obtain ⟨R3y3a, R3y3b⟩ := (R3.ext (ext_alloc' (ext_alloc' (ext_alloc w5 (.cells #[.int .i64 4, .slice a4 4 c4] 24)) (.cells #[.int .i64 0, .int .i64 2] 3)) (.cells #[.int .i64 1, .int .i64 2] 3))).two
  obtain ⟨R3y4a, R3y4b⟩ := (R3.ext (ext_alloc' (ext_alloc' (ext_alloc' (ext_alloc w5 (.cells #[.int .i64 4, .slice a4 4 c4] 24)) (.cells #[.int .i64 0, .int .i64 2] 3)) (.cells #[.int .i64 1, .int .i64 2] 3)) (.cells #[.int .i64 3] 3))).two
  have KK := Lib.hid (sameM_lit hrx (⟨_, rfl, L1⟩ : MatV TT _ _ ⟨4, [[0, 2], [1, 2], [3]]⟩) rfl)
  go_wp2_with fail
  refine KK.out.mono ?_
  rintro _ w6 ⟨_, rfl, hb6, rfl⟩
  clear KK
  have R4z := R4y.ext hb6
  have hy6 := ext_trans ex6 hb6
  replace hm := hm.ext hy6
  replace hr := hr.ext hy6
  replace hk := hk.ext hy6
  replace ht := ht.ext hy6
  replace R1 := R1.ext hy6
  replace R2 := R2.ext hy6
  replace R3 := R3.ext hy6
  clear R1a R1b R2a R2b R3a R3b hmx hrx hkx htx R1x R2x R3x R1xa R1xb R2xa R2xb R3xa R3xb ex6 R1y1a R1y1b R1y2a R1y2b R1y3a R1y3b R1y4a R1y4b R2y1a R2y1b R2y2a R2y2b R2y3a R2y3b R2y4a R2y4b R3y1a R3y1b R3y2a R3y2b R3y3a R3y3b R3y4a R3y4b hb6
  replace HB := ext_trans HB hy6
  clear hy6
  clear L1 R4 R4y
  have R4 := R4z
  clear R4z
  have ex7 := ext_alloc' (ext_alloc w6 (.cells #[.int .i64 0, .int .i64 1, .int .i64 2] 3)) (.cells #[.slice (some ⟨w6.heap.size, 0, none⟩) 3 3] 38)
  have hmx := hm.ext ex7
  have hrx := hr.ext ex7
  have hkx := hk.ext ex7
  have htx := ht.ext ex7
  have R1x := R1.ext ex7
  have R2x := R2.ext ex7
  have R3x := R3.ext ex7
  have R4x := R4.ext ex7
  have k0 : Ints TT (w6.alloc (.cells #[.int .i64 0, .int .i64 1, .int .i64 2] 3)) (.slice (some ⟨w6.heap.size, 0, none⟩) 3 3) [0, 1, 2] := lit_intsS (S := TT) w6 (w6.heap.size) (by simp) trivial [0, 1, 2] 3 (by decide) (by decide)
  have L1 : Lists TT ((w6.alloc (.cells #[.int .i64 0, .int .i64 1, .int .i64 2] 3)).alloc (.cells #[.slice (some ⟨w6.heap.size, 0, none⟩) 3 3] 38)) (.slice (some ⟨w6.heap.size + 1, 0, none⟩) 1 1) [[0, 1, 2]] := lit_listsS (S := TT) (w6.alloc (.cells #[.int .i64 0, .int .i64 1, .int .i64 2] 3)) (w6.heap.size + 1) (by simp) [.slice (some ⟨w6.heap.size, 0, none⟩) 3 3] [[0, 1, 2]] 38 trivial ⟨k0, trivial⟩ (by decide)
  clear k0
  obtain ⟨R1a, R1b⟩ := R1.two
  obtain ⟨R1xa, R1xb⟩ := R1x.two
  obtain ⟨R1y1a, R1y1b⟩ := (R1.ext (ext_alloc w6 (.cells #[.int .i64 0, .int .i64 1, .int .i64 2] 3))).two
  obtain ⟨R2a, R2b⟩ := R2.two
  obtain ⟨R2xa, R2xb⟩ := R2x.two
  obtain ⟨R2y1a, R2y1b⟩ := (R2.ext (ext_alloc w6 (.cells #[.int .i64 0, .int .i64 1, .int .i64 2] 3))).two
  obtain ⟨R3a, R3b⟩ := R3.two
  obtain ⟨R3xa, R3xb⟩ := R3x.two
  obtain ⟨R3y1a, R3y1b⟩ := (R3.ext (ext_alloc w6 (.cells #[.int .i64 0, .int .i64 1, .int .i64 2] 3))).two
  obtain ⟨R4a, R4b⟩ := R4.two
  obtain ⟨R4xa, R4xb⟩ := R4x.two
  obtain ⟨R4y1a, R4y1b⟩ := (R4.ext (ext_alloc w6 (.cells #[.int .i64 0, .int .i64 1, .int .i64 2] 3))).two
  have KK := Lib.hid (sameM_lit hkx (⟨_, rfl, L1⟩ : MatV TT _ _ ⟨4, [[0, 1, 2]]⟩) rfl)
  go_wp2_with fail
  refine KK.out.mono ?_
  rintro _ w7 ⟨_, rfl, hb7, rfl⟩
  clear KK
  have hy7 := ext_trans ex7 hb7
  replace hm := hm.ext hy7
  replace hr := hr.ext hy7
  replace hk := hk.ext hy7
  replace ht := ht.ext hy7
  replace R1 := R1.ext hy7
  replace R2 := R2.ext hy7
  replace R3 := R3.ext hy7
  replace R4 := R4.ext hy7
  clear R1a R1b R2a R2b R3a R3b R4a R4b hmx hrx hkx htx R1x R2x R3x R4x R1xa R1xb R2xa R2xb R3xa R3xb R4xa R4xb ex7 R1y1a R1y1b R2y1a R2y1b R3y1a R3y1b R4y1a R4y1b hb7
  replace HB := ext_trans HB hy7
  clear hy7
  clear L1
  have ex8 := ext_alloc' (ext_alloc' (ext_alloc' (ext_alloc' (ext_alloc w7 (.cells #[.int .i64 0, .int .i64 2] 3)) (.cells #[.int .i64 0, .int .i64 1] 3)) (.cells #[.int .i64 1, .int .i64 2] 3)) (.cells #[.int .i64 3] 3)) (.cells #[.slice (some ⟨w7.heap.size, 0, none⟩) 2 2, .slice (some ⟨w7.heap.size + 1, 0, none⟩) 2 2, .slice (some ⟨w7.heap.size + 1 + 1, 0, none⟩) 2 2, .slice (some ⟨w7.heap.size + 1 + 1 + 1, 0, none⟩) 1 1] 38)
  have hmx := hm.ext ex8
  have hrx := hr.ext ex8
  have hkx := hk.ext ex8
  have htx := ht.ext ex8
  have R1x := R1.ext ex8
  have R2x := R2.ext ex8
  have R3x := R3.ext ex8
  have R4x := R4.ext ex8
  have k0 : Ints TT (w7.alloc (.cells #[.int .i64 0, .int .i64 2] 3)) (.slice (some ⟨w7.heap.size, 0, none⟩) 2 2) [0, 2] := lit_intsS (S := TT) w7 (w7.heap.size) (by simp) trivial [0, 2] 3 (by decide) (by decide)
  replace k0 := k0.ext (ext_alloc (w7.alloc (.cells #[.int .i64 0, .int .i64 2] 3)) (.cells #[.int .i64 0, .int .i64 1] 3))
  replace k0 := k0.ext (ext_alloc ((w7.alloc (.cells #[.int .i64 0, .int .i64 2] 3)).alloc (.cells #[.int .i64 0, .int .i64 1] 3)) (.cells #[.int .i64 1, .int .i64 2] 3))
  replace k0 := k0.ext (ext_alloc (((w7.alloc (.cells #[.int .i64 0, .int .i64 2] 3)).alloc (.cells #[.int .i64 0, .int .i64 1] 3)).alloc (.cells #[.int .i64 1, .int .i64 2] 3)) (.cells #[.int .i64 3] 3))
  have k1 : Ints TT ((w7.alloc (.cells #[.int .i64 0, .int .i64 2] 3)).alloc (.cells #[.int .i64 0, .int .i64 1] 3)) (.slice (some ⟨w7.heap.size + 1, 0, none⟩) 2 2) [0, 1] := lit_intsS (S := TT) (w7.alloc (.cells #[.int .i64 0, .int .i64 2] 3)) (w7.heap.size + 1) (by simp) trivial [0, 1] 3 (by decide) (by decide)
  replace k1 := k1.ext (ext_alloc ((w7.alloc (.cells #[.int .i64 0, .int .i64 2] 3)).alloc (.cells #[.int .i64 0, .int .i64 1] 3)) (.cells #[.int .i64 1, .int .i64 2] 3))
  replace k1 := k1.ext (ext_alloc (((w7.alloc (.cells #[.int .i64 0, .int .i64 2] 3)).alloc (.cells #[.int .i64 0, .int .i64 1] 3)).alloc (.cells #[.int .i64 1, .int .i64 2] 3)) (.cells #[.int .i64 3] 3))
  have k2 : Ints TT (((w7.alloc (.cells #[.int .i64 0, .int .i64 2] 3)).alloc (.cells #[.int .i64 0, .int .i64 1] 3)).alloc (.cells #[.int .i64 1, .int .i64 2] 3)) (.slice (some ⟨w7.heap.size + 1 + 1, 0, none⟩) 2 2) [1, 2] := lit_intsS (S := TT) ((w7.alloc (.cells #[.int .i64 0, .int .i64 2] 3)).alloc (.cells #[.int .i64 0, .int .i64 1] 3)) (w7.heap.size + 1 + 1) (by simp) trivial [1, 2] 3 (by decide) (by decide)
  replace k2 := k2.ext (ext_alloc (((w7.alloc (.cells #[.int .i64 0, .int .i64 2] 3)).alloc (.cells #[.int .i64 0, .int .i64 1] 3)).alloc (.cells #[.int .i64 1, .int .i64 2] 3)) (.cells #[.int .i64 3] 3))
  have k3 : Ints TT ((((w7.alloc (.cells #[.int .i64 0, .int .i64 2] 3)).alloc (.cells #[.int .i64 0, .int .i64 1] 3)).alloc (.cells #[.int .i64 1, .int .i64 2] 3)).alloc (.cells #[.int .i64 3] 3)) (.slice (some ⟨w7.heap.size + 1 + 1 + 1, 0, none⟩) 1 1) [3] := lit_intsS (S := TT) (((w7.alloc (.cells #[.int .i64 0, .int .i64 2] 3)).alloc (.cells #[.int .i64 0, .int .i64 1] 3)).alloc (.cells #[.int .i64 1, .int .i64 2] 3)) (w7.heap.size + 1 + 1 + 1) (by simp) trivial [3] 3 (by decide) (by decide)
  have L1 : Lists TT (((((w7.alloc (.cells #[.int .i64 0, .int .i64 2] 3)).alloc (.cells #[.int .i64 0, .int .i64 1] 3)).alloc (.cells #[.int .i64 1, .int .i64 2] 3)).alloc (.cells #[.int .i64 3] 3)).alloc (.cells #[.slice (some ⟨w7.heap.size, 0, none⟩) 2 2, .slice (some ⟨w7.heap.size + 1, 0, none⟩) 2 2, .slice (some ⟨w7.heap.size + 1 + 1, 0, none⟩) 2 2, .slice (some ⟨w7.heap.size + 1 + 1 + 1, 0, none⟩) 1 1] 38)) (.slice (some ⟨w7.heap.size + 1 + 1 + 1 + 1, 0, none⟩) 4 4) [[0, 2], [0, 1], [1, 2], [3]] := lit_listsS (S := TT) ((((w7.alloc (.cells #[.int .i64 0, .int .i64 2] 3)).alloc (.cells #[.int .i64 0, .int .i64 1] 3)).alloc (.cells #[.int .i64 1, .int .i64 2] 3)).alloc (.cells #[.int .i64 3] 3)) (w7.heap.size + 1 + 1 + 1 + 1) (by simp) [.slice (some ⟨w7.heap.size, 0, none⟩) 2 2, .slice (some ⟨w7.heap.size + 1, 0, none⟩) 2 2, .slice (some ⟨w7.heap.size + 1 + 1, 0, none⟩) 2 2, .slice (some ⟨w7.heap.size + 1 + 1 + 1, 0, none⟩) 1 1] [[0, 2], [0, 1], [1, 2], [3]] 38 trivial ⟨k0, k1, k2, k3, trivial⟩ (by decide)
  clear k0 k1 k2 k3
  obtain ⟨R1a, R1b⟩ := R1.two
  obtain ⟨R1xa, R1xb⟩ := R1x.two
  obtain ⟨R1y1a, R1y1b⟩ := (R1.ext (ext_alloc w7 (.cells #[.int .i64 0, .int .i64 2] 3))).two
  obtain ⟨R1y2a, R1y2b⟩ := (R1.ext (ext_alloc' (ext_alloc w7 (.cells #[.int .i64 0, .int .i64 2] 3)) (.cells #[.int .i64 0, .int .i64 1] 3))).two
  obtain ⟨R1y3a, R1y3b⟩ := (R1.ext (ext_alloc' (ext_alloc' (ext_alloc w7 (.cells #[.int .i64 0, .int .i64 2] 3)) (.cells #[.int .i64 0, .int .i64 1] 3)) (.cells #[.int .i64 1, .int .i64 2] 3))).two
  obtain ⟨R1y4a, R1y4b⟩ := (R1.ext (ext_alloc' (ext_alloc' (ext_alloc' (ext_alloc w7 (.cells #[.int .i64 0, .int .i64 2] 3)) (.cells #[.int .i64 0, .int .i64 1] 3)) (.cells #[.int .i64 1, .int .i64 2] 3)) (.cells #[.int .i64 3] 3))).two
  obtain ⟨R2a, R2b⟩ := R2.two
  obtain ⟨R2xa, R2xb⟩ := R2x.two
  obtain ⟨R2y1a, R2y1b⟩ := (R2.ext (ext_alloc w7 (.cells #[.int .i64 0, .int .i64 2] 3))).two
  obtain ⟨R2y2a, R2y2b⟩ := (R2.ext (ext_alloc' (ext_alloc w7 (.cells #[.int .i64 0, .int .i64 2] 3)) (.cells #[.int .i64 0, .int .i64 1] 3))).two
  obtain ⟨R2y3a, R2y3b⟩ := (R2.ext (ext_alloc' (ext_alloc' (ext_alloc w7 (.cells #[.int .i64 0, .int .i64 2] 3)) (.cells #[.int .i64 0, .int .i64 1] 3)) (.cells #[.int .i64 1, .int .i64 2] 3))).two
  obtain ⟨R2y4a, R2y4b⟩ := (R2.ext (ext_alloc' (ext_alloc' (ext_alloc' (ext_alloc w7 (.cells #[.int .i64 0, .int .i64 2] 3)) (.cells #[.int .i64 0, .int .i64 1] 3)) (.cells #[.int .i64 1, .int .i64 2] 3)) (.cells #[.int .i64 3] 3))).two
  obtain ⟨R3a, R3b⟩ := R3.two
  obtain ⟨R3xa, R3xb⟩ := R3x.two
  obtain ⟨R3y1a, R3y1b⟩ := (R3.ext (ext_alloc w7 (.cells #[.int .i64 0, .int .i64 2] 3))).two
  obtain ⟨R3y2a, R3y2b⟩ := (R3.ext (ext_alloc' (ext_alloc w7 (.cells #[.int .i64 0, .int .i64 2] 3)) (.cells #[.int .i64 0, .int .i64 1] 3))).two
  obtain ⟨R3y3a, R3y3b⟩ := (R3.ext (ext_alloc' (ext_alloc' (ext_alloc w7 (.cells #[.int .i64 0, .int .i64 2] 3)) (.cells #[.int .i64 0, .int .i64 1] 3)) (.cells #[.int .i64 1, .int .i64 2] 3))).two
  obtain ⟨R3y4a, R3y4b⟩ := (R3.ext (ext_alloc' (ext_alloc' (ext_alloc' (ext_alloc w7 (.cells #[.int .i64 0, .int .i64 2] 3)) (.cells #[.int .i64 0, .int .i64 1] 3)) (.cells #[.int .i64 1, .int .i64 2] 3)) (.cells #[.int .i64 3] 3))).two
  obtain ⟨R4a, R4b⟩ := R4.two
  obtain ⟨R4xa, R4xb⟩ := R4x.two
  obtain ⟨R4y1a, R4y1b⟩ := (R4.ext (ext_alloc w7 (.cells #[.int .i64 0, .int .i64 2] 3))).two
  obtain ⟨R4y2a, R4y2b⟩ := (R4.ext (ext_alloc' (ext_alloc w7 (.cells #[.int .i64 0, .int .i64 2] 3)) (.cells #[.int .i64 0, .int .i64 1] 3))).two
  obtain ⟨R4y3a, R4y3b⟩ := (R4.ext (ext_alloc' (ext_alloc' (ext_alloc w7 (.cells #[.int .i64 0, .int .i64 2] 3)) (.cells #[.int .i64 0, .int .i64 1] 3)) (.cells #[.int .i64 1, .int .i64 2] 3))).two
  obtain ⟨R4y4a, R4y4b⟩ := (R4.ext (ext_alloc' (ext_alloc' (ext_alloc' (ext_alloc w7 (.cells #[.int .i64 0, .int .i64 2] 3)) (.cells #[.int .i64 0, .int .i64 1] 3)) (.cells #[.int .i64 1, .int .i64 2] 3)) (.cells #[.int .i64 3] 3))).two
  have KK := Lib.hid (sameM_lit htx (⟨_, rfl, L1⟩ : MatV TT _ _ ⟨4, [[0, 2], [0, 1], [1, 2], [3]]⟩) rfl)
  go_wp2_with fail
  refine KK.out.mono ?_
  rintro _ w8 ⟨_, rfl, hb8, rfl⟩
  clear KK
  have hy8 := ext_trans ex8 hb8
  replace hm := hm.ext hy8
  replace hr := hr.ext hy8
  replace hk := hk.ext hy8
  replace ht := ht.ext hy8
  replace R1 := R1.ext hy8
  replace R2 := R2.ext hy8
  replace R3 := R3.ext hy8
  replace R4 := R4.ext hy8
  clear R1a R1b R2a R2b R3a R3b R4a R4b hmx hrx hkx htx R1x R2x R3x R4x R1xa R1xb R2xa R2xb R3xa R3xb R4xa R4xb ex8 R1y1a R1y1b R1y2a R1y2b R1y3a R1y3b R1y4a R1y4b R2y1a R2y1b R2y2a R2y2b R2y3a R2y3b R2y4a R2y4b R3y1a R3y1b R3y2a R3y2b R3y3a R3y3b R3y4a R3y4b R4y1a R4y1b R4y2a R4y2b R4y3a R4y3b R4y4a R4y4b hb8
  replace HB := ext_trans HB hy8
  clear hy8
  clear L1
  have ex9 := ext_alloc w8 (.cells #[.int .i64 0, .int .i64 1, .int .i64 3] 3)
  have hmx := hm.ext ex9
  have hrx := hr.ext ex9
  have hkx := hk.ext ex9
  have htx := ht.ext ex9
  have R1x := R1.ext ex9
  have R2x := R2.ext ex9
  have R3x := R3.ext ex9
  have R4x := R4.ext ex9
  have I1 : Ints TT (w8.alloc (.cells #[.int .i64 0, .int .i64 1, .int .i64 3] 3)) (.slice (some ⟨w8.heap.size, 0, none⟩) 3 3) [0, 1, 3] := lit_intsS (S := TT) w8 (w8.heap.size) (by simp) trivial [0, 1, 3] 3 (by decide) (by decide)
  obtain ⟨R1a, R1b⟩ := R1.two
  obtain ⟨R1xa, R1xb⟩ := R1x.two
  obtain ⟨R2a, R2b⟩ := R2.two
  obtain ⟨R2xa, R2xb⟩ := R2x.two
  obtain ⟨R3a, R3b⟩ := R3.two
  obtain ⟨R3xa, R3xb⟩ := R3x.two
  obtain ⟨R4a, R4b⟩ := R4.two
  obtain ⟨R4xa, R4xb⟩ := R4x.two
  have KK := Lib.hid (sol_lit1 hmx I1)
  go_wp2_with fail
  refine KK.out.mono ?_
  rintro _ w9 ⟨_, rfl, hb9, a5, c5, b5, d5, rfl, hs, _⟩
  clear KK
  have hy9 := ext_trans ex9 hb9
  replace hm := hm.ext hy9
  replace hr := hr.ext hy9
  replace hk := hk.ext hy9
  replace ht := ht.ext hy9
  replace R1 := R1.ext hy9
  replace R2 := R2.ext hy9
  replace R3 := R3.ext hy9
  replace R4 := R4.ext hy9
  clear R1a R1b R2a R2b R3a R3b R4a R4b hmx hrx hkx htx R1x R2x R3x R4x R1xa R1xb R2xa R2xb R3xa R3xb R4xa R4xb ex9 hb9
  replace HB := ext_trans HB hy9
  clear hy9
  clear I1
  have ex10 := ext_alloc w9 (.cells #[.int .i64 0] 3)
  have hmx := hm.ext ex10
  have hrx := hr.ext ex10
  have hkx := hk.ext ex10
  have htx := ht.ext ex10
  have hsx := hs.ext ex10
  have R1x := R1.ext ex10
  have R2x := R2.ext ex10
  have R3x := R3.ext ex10
  have R4x := R4.ext ex10
  have I1 : Ints TT (w9.alloc (.cells #[.int .i64 0] 3)) (.slice (some ⟨w9.heap.size, 0, none⟩) 1 1) [0] := lit_intsS (S := TT) w9 (w9.heap.size) (by simp) trivial [0] 3 (by decide) (by decide)
  obtain ⟨R1a, R1b⟩ := R1.two
  obtain ⟨R1xa, R1xb⟩ := R1x.two
  obtain ⟨R2a, R2b⟩ := R2.two
  obtain ⟨R2xa, R2xb⟩ := R2x.two
  obtain ⟨R3a, R3b⟩ := R3.two
  obtain ⟨R3xa, R3xb⟩ := R3x.two
  obtain ⟨R4a, R4b⟩ := R4.two
  obtain ⟨R4xa, R4xb⟩ := R4x.two
  have KK := Lib.hid (sol_lit2 hmx I1)
  go_wp2_with fail
  refine KK.out.mono ?_
  rintro _ w10 ⟨_, rfl, hb10, a6, c6, b6, d6, rfl, _, hy⟩
  clear KK
  have hy10 := ext_trans ex10 hb10
  replace hm := hm.ext hy10
  replace hr := hr.ext hy10
  replace hk := hk.ext hy10
  replace ht := ht.ext hy10
  replace hs := hs.ext hy10
  replace R1 := R1.ext hy10
  replace R2 := R2.ext hy10
  replace R3 := R3.ext hy10
  replace R4 := R4.ext hy10
  clear R1a R1b R2a R2b R3a R3b R4a R4b hmx hrx hkx htx hsx R1x R2x R3x R4x R1xa R1xb R2xa R2xb R3xa R3xb R4xa R4xb ex10 hb10
  replace HB := ext_trans HB hy10
  clear hy10
  clear I1
  have ex11 := ext_alloc w10 (.cells #[.int .i64 1, .int .i64 3] 3)
  have hmx := hm.ext ex11
  have hrx := hr.ext ex11
  have hkx := hk.ext ex11
  have htx := ht.ext ex11
  have hsx := hs.ext ex11
  have hyx := hy.ext ex11
  have R1x := R1.ext ex11
  have R2x := R2.ext ex11
  have R3x := R3.ext ex11
  have R4x := R4.ext ex11
  have I1 : Ints TT (w10.alloc (.cells #[.int .i64 1, .int .i64 3] 3)) (.slice (some ⟨w10.heap.size, 0, none⟩) 2 2) [1, 3] := lit_intsS (S := TT) w10 (w10.heap.size) (by simp) trivial [1, 3] 3 (by decide) (by decide)
  obtain ⟨R1a, R1b⟩ := R1.two
  obtain ⟨R1xa, R1xb⟩ := R1x.two
  obtain ⟨R2a, R2b⟩ := R2.two
  obtain ⟨R2xa, R2xb⟩ := R2x.two
  obtain ⟨R3a, R3b⟩ := R3.two
  obtain ⟨R3xa, R3xb⟩ := R3x.two
  obtain ⟨R4a, R4b⟩ := R4.two
  obtain ⟨R4xa, R4xb⟩ := R4x.two
  have KK := Lib.hid (equal_lit hsx I1 rfl)
  go_wp2_with fail
  refine KK.out.mono ?_
  rintro _ w11 ⟨_, rfl, hb11, rfl⟩
  clear KK
  have hy11 := ext_trans ex11 hb11
  replace hm := hm.ext hy11
  replace hr := hr.ext hy11
  replace hk := hk.ext hy11
  replace ht := ht.ext hy11
  replace hs := hs.ext hy11
  replace hy := hy.ext hy11
  replace R1 := R1.ext hy11
  replace R2 := R2.ext hy11
  replace R3 := R3.ext hy11
  replace R4 := R4.ext hy11
  clear R1a R1b R2a R2b R3a R3b R4a R4b hmx hrx hkx htx hsx hyx R1x R2x R3x R4x R1xa R1xb R2xa R2xb R3xa R3xb R4xa R4xb ex11 hb11
  replace HB := ext_trans HB hy11
  clear hy11
  clear I1
  have ex12 := ext_alloc w11 (.cells #[.int .i64 0, .int .i64 1, .int .i64 2] 3)
  have hmx := hm.ext ex12
  have hrx := hr.ext ex12
  have hkx := hk.ext ex12
  have htx := ht.ext ex12
  have hsx := hs.ext ex12
  have hyx := hy.ext ex12
  have R1x := R1.ext ex12
  have R2x := R2.ext ex12
  have R3x := R3.ext ex12
  have R4x := R4.ext ex12
  have I1 : Ints TT (w11.alloc (.cells #[.int .i64 0, .int .i64 1, .int .i64 2] 3)) (.slice (some ⟨w11.heap.size, 0, none⟩) 3 3) [0, 1, 2] := lit_intsS (S := TT) w11 (w11.heap.size) (by simp) trivial [0, 1, 2] 3 (by decide) (by decide)
  obtain ⟨R1a, R1b⟩ := R1.two
  obtain ⟨R1xa, R1xb⟩ := R1x.two
  obtain ⟨R2a, R2b⟩ := R2.two
  obtain ⟨R2xa, R2xb⟩ := R2x.two
  obtain ⟨R3a, R3b⟩ := R3.two
  obtain ⟨R3xa, R3xb⟩ := R3x.two
  obtain ⟨R4a, R4b⟩ := R4.two
  obtain ⟨R4xa, R4xb⟩ := R4x.two
  have KK := Lib.hid (equal_lit hyx I1 rfl)
  go_wp2_with fail
  refine KK.out.mono ?_
  rintro _ w12 ⟨_, rfl, hb12, rfl⟩
  clear KK
  have hy12 := ext_trans ex12 hb12
  replace hm := hm.ext hy12
  replace hr := hr.ext hy12
  replace hk := hk.ext hy12
  replace ht := ht.ext hy12
  replace hs := hs.ext hy12
  replace hy := hy.ext hy12
  replace R1 := R1.ext hy12
  replace R2 := R2.ext hy12
  replace R3 := R3.ext hy12
  replace R4 := R4.ext hy12
  clear R1a R1b R2a R2b R3a R3b R4a R4b hmx hrx hkx htx hsx hyx R1x R2x R3x R4x R1xa R1xb R2xa R2xb R3xa R3xb R4xa R4xb ex12 hb12
  replace HB := ext_trans HB hy12
  clear hy12
  clear I1
  have ex13 := ext_alloc w12 (.cells #[.int .i64 0] 3)
  have hmx := hm.ext ex13
  have hrx := hr.ext ex13
  have hkx := hk.ext ex13
  have htx := ht.ext ex13
  have hsx := hs.ext ex13
  have hyx := hy.ext ex13
  have R1x := R1.ext ex13
  have R2x := R2.ext ex13
  have R3x := R3.ext ex13
  have R4x := R4.ext ex13
  have I1 : Ints TT (w12.alloc (.cells #[.int .i64 0] 3)) (.slice (some ⟨w12.heap.size, 0, none⟩) 1 1) [0] := lit_intsS (S := TT) w12 (w12.heap.size) (by simp) trivial [0] 3 (by decide) (by decide)
  obtain ⟨R1a, R1b⟩ := R1.two
  obtain ⟨R1xa, R1xb⟩ := R1x.two
  obtain ⟨R2a, R2b⟩ := R2.two
  obtain ⟨R2xa, R2xb⟩ := R2x.two
  obtain ⟨R3a, R3b⟩ := R3.two
  obtain ⟨R3xa, R3xb⟩ := R3x.two
  obtain ⟨R4a, R4b⟩ := R4.two
  obtain ⟨R4xa, R4xb⟩ := R4x.two
  have KK := Lib.hid (ver_lit1 hmx I1 hyx)
  go_wp2_with fail
  refine KK.out.mono ?_
  rintro _ w13 ⟨_, rfl, hb13, rfl⟩
  clear KK
  have hy13 := ext_trans ex13 hb13
  replace hm := hm.ext hy13
  replace hr := hr.ext hy13
  replace hk := hk.ext hy13
  replace ht := ht.ext hy13
  replace hs := hs.ext hy13
  replace hy := hy.ext hy13
  replace R1 := R1.ext hy13
  replace R2 := R2.ext hy13
  replace R3 := R3.ext hy13
  replace R4 := R4.ext hy13
  clear R1a R1b R2a R2b R3a R3b R4a R4b hmx hrx hkx htx hsx hyx R1x R2x R3x R4x R1xa R1xb R2xa R2xb R3xa R3xb R4xa R4xb ex13 hb13
  replace HB := ext_trans HB hy13
  clear hy13
  clear I1
  have ex14 := ext_alloc w13 (.cells #[.int .i64 0, .int .i64 1, .int .i64 3] 3)
  have hmx := hm.ext ex14
  have hrx := hr.ext ex14
  have hkx := hk.ext ex14
  have htx := ht.ext ex14
  have hsx := hs.ext ex14
  have hyx := hy.ext ex14
  have R1x := R1.ext ex14
  have R2x := R2.ext ex14
  have R3x := R3.ext ex14
  have R4x := R4.ext ex14
  have I1 : Ints TT (w13.alloc (.cells #[.int .i64 0, .int .i64 1, .int .i64 3] 3)) (.slice (some ⟨w13.heap.size, 0, none⟩) 3 3) [0, 1, 3] := lit_intsS (S := TT) w13 (w13.heap.size) (by simp) trivial [0, 1, 3] 3 (by decide) (by decide)
  obtain ⟨R1a, R1b⟩ := R1.two
  obtain ⟨R1xa, R1xb⟩ := R1x.two
  obtain ⟨R2a, R2b⟩ := R2.two
  obtain ⟨R2xa, R2xb⟩ := R2x.two
  obtain ⟨R3a, R3b⟩ := R3.two
  obtain ⟨R3xa, R3xb⟩ := R3x.two
  obtain ⟨R4a, R4b⟩ := R4.two
  obtain ⟨R4xa, R4xb⟩ := R4x.two
  have KK := Lib.hid (ver_lit2 hmx I1 hyx)
  go_wp2_with fail
  refine KK.out.mono ?_
  rintro _ w14 ⟨_, rfl, hb14, rfl⟩
  clear KK
  have hy14 := ext_trans ex14 hb14
  replace hm := hm.ext hy14
  replace hr := hr.ext hy14
  replace hk := hk.ext hy14
  replace ht := ht.ext hy14
  replace hs := hs.ext hy14
  replace hy := hy.ext hy14
  replace R1 := R1.ext hy14
  replace R2 := R2.ext hy14
  replace R3 := R3.ext hy14
  replace R4 := R4.ext hy14
  clear R1a R1b R2a R2b R3a R3b R4a R4b hmx hrx hkx htx hsx hyx R1x R2x R3x R4x R1xa R1xb R2xa R2xb R3xa R3xb R4xa R4xb ex14 hb14
  replace HB := ext_trans HB hy14
  clear hy14
  clear I1
  go_wp2
  go_ret
  exact .mk HB rfl
end Go.Proofs.Ytijmjliijjkcbaa
