/- The reference's Eval, Assign, step. -/
import Derived.Test.YtifcgcdbebgahaaClE
namespace Go.Proofs.Ytifcgcdbebgahaa
set_option linter.unusedVariables false
open Go.RowKit
attribute [local go_sem ↓] Go.wp_at_zero Go.wp_at_succ

def evalS (m : Mx) (model : List Int) : Int × Bool × Int := if checkC m ≠ 0 then (0, false, checkC m) else if modelE m.cols model ≠ 0 then (0, false, modelE m.cols model) else if 0 ≤ wrongP m.rows model then (wrongP m.rows model, false, 0) else (0, true, 0)
theorem checkC_zero {m : Mx} (h : checkC m = 0) : sizesS m = 0 := by
  unfold checkC at h
  split at h
  · rename_i h1; exact absurd h h1
  · rename_i h1; exact Classical.not_not.1 h1

set_option maxRecDepth 100000 in
set_option maxHeartbeats 2000000 in
theorem refEval_calls {S S' : Nat → Prop} {w : World} {va vb : Value} {m : Mx} {x : List Int} (ha : MatV S w va m) (hx : Ints S' w vb x) :
    Calls Try.prog 14 #[va, vb] w (Post w fun _ r => r = .tuple #[.int .i64 (evalS m x).1, .bool (evalS m x).2.1, .int .i64 (evalS m x).2.2]) := by
  obtain ⟨cols, ll⟩ := m
  obtain ⟨ra, rfl, la⟩ := ha
  obtain ⟨aa, acap, rfl, aad, al1, alm⟩ := la.form
  obtain ⟨ab, nb, rfl, _⟩ := hx.form
  dsimp only at la al1 aad ⊢
  obtain ⟨E, hE⟩ : ∃ E, E = evalS ⟨cols, ll⟩ x := ⟨_, rfl⟩
  rw [← hE]
  unfold evalS at hE
  dsimp only at hE
  obtain ⟨c1, hc1⟩ : ∃ c1, c1 = checkC ⟨cols, ll⟩ := ⟨_, rfl⟩
  obtain ⟨c2, hc2⟩ : ∃ c2, c2 = modelE cols x := ⟨_, rfl⟩
  obtain ⟨c3, hc3⟩ : ∃ c3, c3 = wrongP ll x := ⟨_, rfl⟩
  rw [← hc1, ← hc2, ← hc3] at hE
  have HE := Lib.hid hE
  have ex : Below w.heap.size w (w.alloc (.cells #[.int .i64 cols, .slice aa ll.length acap] 24)) := ext_alloc w _
  have r0 := row_new w [.int .i64 cols, .slice aa ll.length acap] 24
  have KC := Lib.hid (refCheck_calls (v := .agg #[.int .i64 cols, .slice aa ll.length acap]) (m := ⟨cols, ll⟩) ⟨_, rfl, la.ext ex⟩)
  rw [← hc1] at KC
  have KM := Lib.hid (fun W (hW : Below w.heap.size w W) => ((refModel_quiet (hx.ext hW) cols).mono fun _ _ h => h.post))
  rw [← hc2] at KM
  have KW := Lib.hid (fun W (hW : Below w.heap.size w W) => ((refWrong_quiet (la.ext hW) (hx.ext hW)).mono fun _ _ h => h.post))
  rw [← hc3] at KW
  clear hE hc1 hc2 hc3
  go_enter Try.func14, Try.ntmps14
  go_wp2_with fail
  refine KC.out.mono ?_
  rintro _ w1 ⟨_, rfl, hb1, rfl⟩
  have hx1 := ext_trans ex hb1
  have R0 := r0.ext hb1
  clear KC r0 ex hb1
  by_cases h1 : ¬ c1 = 0
  · have e1 : (c1 != 0) = true := by simp [h1]
    have R : Hid (E = (0, false, c1)) := Lib.hid (by rw [HE.out, if_pos h1])
    clear h1
    go_wp2
    refine bodyPost_ret (v := .tuple #[.int .i64 0, .bool false, .int .i64 c1]) (by simp [results, Try.results14, go_sem]) rfl ?_
    exact .mk hx1 (by rw [R.out])
  have h1 := Classical.not_not.1 h1
  have e1 : (c1 != 0) = false := by simp [h1]
  have H1 := Lib.hid h1
  obtain ⟨q0, q1⟩ := R0.two
  clear h1
  go_wp2_with fail
  refine (KM.out w1 hx1).mono ?_
  rintro _ w2 ⟨_, rfl, hb2, rfl⟩
  have hx2 := ext_trans hx1 hb2
  have R0 := R0.ext hb2
  clear q0 q1 hb2
  by_cases h2 : ¬ c2 = 0
  · have e2 : (c2 != 0) = true := by simp [h2]
    have R : Hid (E = (0, false, c2)) := Lib.hid (by rw [HE.out, if_neg (by simp [H1.out]), if_pos h2])
    clear h2
    go_wp2
    refine bodyPost_ret (v := .tuple #[.int .i64 0, .bool false, .int .i64 c2]) (by simp [results, Try.results14, go_sem]) rfl ?_
    exact .mk hx2 (by rw [R.out])
  have h2 := Classical.not_not.1 h2
  have e2 : (c2 != 0) = false := by simp [h2]
  have H2 := Lib.hid h2
  obtain ⟨q0, q1⟩ := R0.two
  clear h2
  go_wp2_with fail
  refine (KW.out w2 hx2).mono ?_
  rintro _ w3 ⟨_, rfl, hb3, rfl⟩
  have hx3 := ext_trans hx2 hb3
  clear q0 q1 hb3
  by_cases h3 : 0 ≤ c3
  · have R : Hid (E = (c3, false, 0)) := Lib.hid (by rw [HE.out, if_neg (by simp [H1.out]), if_neg (by simp [H2.out]), if_pos h3])
    go_wp2
    refine bodyPost_ret (v := .tuple #[.int .i64 c3, .bool false, .int .i64 0]) (by simp [results, Try.results14, go_sem]) rfl ?_
    exact .mk hx3 (by rw [R.out])
  · have R : Hid (E = (0, true, 0)) := Lib.hid (by rw [HE.out, if_neg (by simp [H1.out]), if_neg (by simp [H2.out]), if_neg h3])
    go_wp2
    refine bodyPost_ret (v := .tuple #[.int .i64 0, .bool true, .int .i64 0]) (by simp [results, Try.results14, go_sem]) rfl ?_
    exact .mk hx3 (by rw [R.out])

/-! a step of propagation -/
def stepFrom (l : List (List Int)) (lits : List Int) (k : Nat) : Int × List Int :=
  if k < l.length then (if trueP (nthL l k) lits = true then stepFrom l lits (k + 1) else if (withoutP (nthL l k) lits).length < 2 then ((k : Int), withoutP (nthL l k) lits) else stepFrom l lits (k + 1)) else (-1, [])
termination_by l.length - k
def stepP (l : List (List Int)) (lits : List Int) : Int × List Int := stepFrom l lits 0
theorem stepFrom_end {l : List (List Int)} {lits : List Int} {k : Nat} (h : l.length ≤ k) : stepFrom l lits k = (-1, []) := by rw [stepFrom, if_neg (by omega)]
theorem stepFrom_true {l : List (List Int)} {lits : List Int} {k : Nat} (h : k < l.length) (ht : trueP (nthL l k) lits = true) : stepFrom l lits k = stepFrom l lits (k + 1) := by rw [stepFrom, if_pos h, if_pos ht]
theorem stepFrom_hit {l : List (List Int)} {lits : List Int} {k : Nat} (h : k < l.length) (ht : trueP (nthL l k) lits = false) (h2 : (withoutP (nthL l k) lits).length < 2) : stepFrom l lits k = ((k : Int), withoutP (nthL l k) lits) := by rw [stepFrom, if_pos h, if_neg (by rw [ht]; simp), if_pos h2]
theorem stepFrom_more {l : List (List Int)} {lits : List Int} {k : Nat} (h : k < l.length) (ht : trueP (nthL l k) lits = false) (h2 : ¬ (withoutP (nthL l k) lits).length < 2) : stepFrom l lits k = stepFrom l lits (k + 1) := by rw [stepFrom, if_pos h, if_neg (by rw [ht]; simp), if_neg h2]
/-- What a step leaves. -/
def PStep (base : Nat) (s : Int × List Int) (w' : World) (r : Value) : Prop := ∃ a c, r = .tuple #[.int .i64 s.1, .slice a s.2.length c] ∧ Ints (fun b => base ≤ b) w' (.slice a s.2.length c) s.2
set_option maxRecDepth 100000 in
set_option maxHeartbeats 2000000 in
theorem refStep_calls {S S' : Nat → Prop} {w : World} {va vb : Value} {l : List (List Int)} {lits : List Int} (ha : Lists S w va l) (hb : Ints S' w vb lits) (hn : ∀ r ∈ l, r.length ≤ 1000000) :
    Calls Try.prog 75 #[va, vb] w (Post w (PStep w.heap.size (stepP l lits))) := by
  obtain ⟨a, cap, rfl, ad, l1, lm⟩ := ha.form
  obtain ⟨b, bcap, rfl, _⟩ := hb.form
  unfold maxLen at lm
  obtain ⟨i0, hi, hz1, hz2, hz3⟩ := info_parts info_ints
  have HQ := Lib.hid (idx_one Try.underlying22 hi hz2 ad)
  have HA := Lib.hid ha
  have HB := Lib.hid hb
  have HN := Lib.hid hn
  obtain ⟨E, hE⟩ : ∃ E, E = stepP l lits := ⟨_, rfl⟩
  rw [← hE]
  have HE : Hid (E = stepFrom l lits 0) := Lib.hid hE
  clear hi hz1 hz2 hz3 hb ha hn hE
  go_enter Try.func75, Try.ntmps75
  go_wp2
  go_loopw [6, 7] (fun i _ wr => ∃ k : Nat, k ≤ l.length ∧ i = .int .i64 k ∧ Below w.heap.size w wr ∧ Hid (E = stepFrom l lits k)) (fun i _ _ => l.length - (intOf i).toNat)
  case atStart => exact ⟨0, Nat.zero_le _, rfl, .refl _ _, HE⟩
  case round =>
    obtain ⟨k, hk, rfl, hbr, hF⟩ := hrel
    by_cases hlt : k < l.length
    · have q := HQ.out k hlt
      obtain ⟨u, cu, iu⟩ := HA.out.at hbr hlt
      have hrl := HN.out _ (nthL_mem hlt)
      have HT := Lib.hid (stepFrom_true (lits := lits) hlt)
      have HH := Lib.hid (stepFrom_hit (lits := lits) hlt)
      have HM := Lib.hid (stepFrom_more (lits := lits) hlt)
      obtain ⟨c, hc⟩ : ∃ c, c = nthL l k := ⟨_, rfl⟩
      rw [← hc] at iu hrl HT HH HM
      obtain ⟨au, cu2, rfl, _⟩ := iu.form
      have HI := Lib.hid iu
      have KT := Lib.hid ((refTrue_quiet iu (HB.out.ext hbr)).mono fun _ _ h => h.post)
      obtain ⟨tb, htb⟩ : ∃ tb, tb = trueP c lits := ⟨_, rfl⟩
      rw [← htb] at KT
      have HTB := Lib.hid htb
      clear hc htb iu
      go_wp2_with fail
      refine KT.out.mono ?_
      rintro _ w2 ⟨_, rfl, hb2, rfl⟩
      have hbr2 := ext_trans hbr hb2
      cases tb with
      | true =>
        have HR := Lib.hid (hF.out.trans (HT.out HTB.out.symm))
        go_wp2
        go_roundw
        case rel => exact ⟨k + 1, by omega, by go_num, hbr2, HR⟩
        case measure => simp [intOf]; omega
      | false =>
        have cu := cell_ext cu hb2
        have KW := Lib.hid (refWithout_calls (HI.out.ext hb2) (HB.out.ext hbr2) hrl)
        obtain ⟨op, hop⟩ : ∃ op, op = withoutP c lits := ⟨_, rfl⟩
        rw [← hop] at KW HH HM
        clear hop
        go_wp2_with fail
        refine KW.out.mono ?_
        rintro _ w3 ⟨v3, rfl, hb3, hI3⟩
        obtain ⟨a3, c3, rfl, _⟩ := hI3.form
        have hbr3 := ext_trans hbr2 hb3
        have I3 := Lib.hid (hI3.mono (S' := fun b => w.heap.size ≤ b) fun b hb => by have := hbr2.size; omega)
        clear hI3 KW
        by_cases h2 : op.length < 2
        · have HR := Lib.hid (hF.out.trans (HH.out HTB.out.symm h2))
          go_wp2
          go_ret2
          exact .mk hbr3 ⟨a3, c3, by rw [HR.out]; rfl, by rw [HR.out]; exact I3.out⟩
        · have HR := Lib.hid (hF.out.trans (HM.out HTB.out.symm h2))
          go_wp2
          go_roundw
          case rel => exact ⟨k + 1, by omega, by go_num, hbr3, HR⟩
          case measure => simp [intOf]; omega
    · have HR := Lib.hid (hF.out.trans (stepFrom_end (by omega)))
      go_wp2
      go_ret2
      exact .mk hbr ⟨none, 0, by rw [HR.out]; rfl, by rw [HR.out]; exact .nil _ _⟩
end Go.Proofs.Ytifcgcdbebgahaa
