/- The reference's Propagate. -/
import Derived.Test.YtifcgcdbebgahaaClH
namespace Go.Proofs.Ytifcgcdbebgahaa
set_option linter.unusedVariables false
open Go.RowKit
attribute [local go_sem ↓] Go.wp_at_zero Go.wp_at_succ

def propS (m : Mx) (x : List Int) : ((List Int × List Int) × Int) × Int := if checkC m ≠ 0 then ((([], []), 0), checkC m) else if assignE m.cols x ≠ 0 then ((([], []), 0), assignE m.cols x) else (unitsP m.rows x, 0)
theorem propS_err {m : Mx} {x : List Int} (h : checkC m ≠ 0) : propS m x = ((([], []), 0), checkC m) := by unfold propS; rw [if_pos h]
theorem propS_vec {m : Mx} {x : List Int} (h : checkC m = 0) (h2 : assignE m.cols x ≠ 0) : propS m x = ((([], []), 0), assignE m.cols x) := by unfold propS; rw [if_neg (by simp [h]), if_pos h2]
theorem propS_ok {m : Mx} {x : List Int} (h : checkC m = 0) (h2 : assignE m.cols x = 0) : propS m x = (unitsP m.rows x, 0) := by unfold propS; rw [if_neg (by simp [h]), if_neg (by simp [h2])]
def PProp (base : Nat) (t : ((List Int × List Int) × Int) × Int) (w' : World) (r : Value) : Prop := ∃ a c b d, r = .tuple #[.slice a t.1.1.1.length c, .slice b t.1.1.2.length d, .int .i64 t.1.2, .int .i64 t.2] ∧ Ints (fun k => base ≤ k) w' (.slice a t.1.1.1.length c) t.1.1.1 ∧ Ints (fun k => base ≤ k) w' (.slice b t.1.1.2.length d) t.1.1.2
theorem PProp.none {base : Nat} {t : ((List Int × List Int) × Int) × Int} {w' : World} {e : Int} (h : t = ((([], []), 0), e)) : PProp base t w' (.tuple #[.slice none 0 0, .slice none 0 0, .int .i64 0, .int .i64 e]) := by
  subst h
  exact ⟨Option.none, 0, Option.none, 0, rfl, Ints.nil _ _, Ints.nil _ _⟩

set_option maxRecDepth 100000 in
set_option maxHeartbeats 2000000 in
theorem refPropagate_calls {S S' : Nat → Prop} {w : World} {va vb : Value} {m : Mx} {x : List Int} (ha : MatV S w va m) (hx : Ints S' w vb x) (hl : x.length ≤ 100000) :
    Calls Try.prog 19 #[va, vb] w (Post w (PProp w.heap.size (propS m x))) := by
  obtain ⟨cols, ll⟩ := m
  obtain ⟨ra, rfl, la⟩ := ha
  obtain ⟨aa, acap, rfl, aad, al1, alm⟩ := la.form
  obtain ⟨ab, nb, rfl, _⟩ := hx.form
  dsimp only at la al1 aad ⊢
  obtain ⟨c1, hc1⟩ : ∃ c1, c1 = checkC ⟨cols, ll⟩ := ⟨_, rfl⟩
  obtain ⟨c2, hc2⟩ : ∃ c2, c2 = assignE cols x := ⟨_, rfl⟩
  have HC1 := Lib.hid hc1
  have HC2 := Lib.hid hc2
  have HL := Lib.hid hl
  have ex : Below w.heap.size w (w.alloc (.cells #[.int .i64 cols, .slice aa ll.length acap] 24)) := ext_alloc w _
  have r0 := row_new w [.int .i64 cols, .slice aa ll.length acap] 24
  have KC := Lib.hid (refCheck_calls (v := .agg #[.int .i64 cols, .slice aa ll.length acap]) (m := ⟨cols, ll⟩) ⟨_, rfl, la.ext ex⟩)
  rw [← hc1] at KC
  have LA := Lib.hid la
  have HX := Lib.hid hx
  clear hc1 la hx hl
  go_enter Try.func19, Try.ntmps19
  go_wp2_with fail
  refine KC.out.mono ?_
  rintro _ w1 ⟨_, rfl, hb1, rfl⟩
  have hx1 := ext_trans ex hb1
  have R0 := r0.ext hb1
  clear KC r0 ex hb1
  by_cases h1 : ¬ c1 = 0
  · have e1 : (c1 != 0) = true := by simp [h1]
    have RR := Lib.hid (propS_err (m := ⟨cols, ll⟩) (x := x) (HC1.out ▸ h1))
    rw [← HC1.out] at RR
    clear h1
    go_wp2
    refine bodyPost_ret (v := .tuple #[.slice none 0 0, .slice none 0 0, .int .i64 0, .int .i64 c1]) (by simp [results, Try.results19, go_sem]) rfl ?_
    exact .mk hx1 (.none RR.out)
  have h1 := Classical.not_not.1 h1
  have e1 : (c1 != 0) = false := by simp [h1]
  have H1 : Hid (checkC ⟨cols, ll⟩ = 0) := Lib.hid (HC1.out.symm.trans h1)
  have OK := Lib.hid (checkC_ok.1 H1.out)
  have hac0 : 0 ≤ cols := OK.out.c0
  have hac1 : cols ≤ 4096 := OK.out.c1
  have hal : ll.length ≤ 32768 := OK.out.r1
  have KM := Lib.hid (((refAssignment_quiet (HX.out.ext hx1) (n := cols) ⟨hac0, by omega⟩).mono fun _ _ h => h.post))
  rw [← hc2] at KM
  obtain ⟨q0, q1⟩ := R0.two
  clear h1 hc2
  go_wp2_with fail
  refine KM.out.mono ?_
  rintro _ w2 ⟨_, rfl, hb2, rfl⟩
  have hx2 := ext_trans hx1 hb2
  have R0 := R0.ext hb2
  clear q0 q1 hb2 KM
  by_cases h2 : ¬ c2 = 0
  · have e2 : (c2 != 0) = true := by simp [h2]
    have RR := Lib.hid (propS_vec (m := ⟨cols, ll⟩) (x := x) H1.out (HC2.out ▸ h2))
    dsimp only at RR
    rw [← HC2.out] at RR
    clear h2
    go_wp2
    refine bodyPost_ret (v := .tuple #[.slice none 0 0, .slice none 0 0, .int .i64 0, .int .i64 c2]) (by simp [results, Try.results19, go_sem]) rfl ?_
    exact .mk hx2 (.none RR.out)
  have h2 := Classical.not_not.1 h2
  have e2 : (c2 != 0) = false := by simp [h2]
  have RR := Lib.hid (propS_ok (m := ⟨cols, ll⟩) (x := x) H1.out (HC2.out.symm.trans h2))
  dsimp only at RR
  obtain ⟨q0, q1⟩ := R0.two
  have KW := Lib.hid (refUnits_calls (LA.out.ext hx2) (HX.out.ext hx2) (by omega) HL.out (fun r hr => Nat.le_trans (OK.out.len hr) (by omega)))
  clear h2
  go_wp2_with fail
  refine KW.out.mono ?_
  rintro _ w3 ⟨_, rfl, hb3, a3, c3, b3, d3, rfl, hi3, hj3⟩
  have hx3 := ext_trans hx2 hb3
  have HI3 := Lib.hid (hi3.mono (S' := fun b => w.heap.size ≤ b) fun b hb => Nat.le_trans hx2.size hb)
  have HJ3 := Lib.hid (hj3.mono (S' := fun b => w.heap.size ≤ b) fun b hb => Nat.le_trans hx2.size hb)
  clear q0 q1 hb3 hi3 hj3 KW
  obtain ⟨⟨⟨l1, l2⟩, ci⟩, hU⟩ : ∃ U, U = unitsP ll x := ⟨_, rfl⟩
  rw [← hU] at RR HI3 HJ3 ⊢
  clear hU
  dsimp only at HI3 HJ3 RR ⊢
  go_wp2
  refine bodyPost_ret (v := .tuple #[.slice a3 l1.length c3, .slice b3 l2.length d3, .int .i64 ci, .int .i64 0]) (by simp [results, Try.results19, go_sem]) rfl ?_
  rw [RR.out]
  exact .mk hx3 ⟨_, _, _, _, rfl, HI3.out, HJ3.out⟩
end Go.Proofs.Ytifcgcdbebgahaa
