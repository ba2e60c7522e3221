/- The program's Eval. -/
import Derived.Test.YtifcgcdbebgahaaClQ
namespace Go.Proofs.Ytifcgcdbebgahaa
set_option linter.unusedVariables false
open Go.RowKit
attribute [local go_sem ↓] Go.wp_at_zero Go.wp_at_succ

theorem row_good {n : Int} {l : List (List Int)} (h : COk ⟨n, l⟩) {r : List Int} (hr : r ∈ l) {y : Int} (hy : y ∈ r) : goodP n y = true := by
  obtain ⟨j, hj, rfl⟩ := List.getElem_of_mem hy
  have := (clauseE_zero.1 (h.cl r hr) j hj).1
  rwa [nth_eq hj] at this
set_option maxRecDepth 100000 in
set_option maxHeartbeats 4000000 in
theorem eval_calls {S S' : Nat → Prop} {w : World} {va vb : Value} {m : Mx} {x : List Int} (ha : MatV S w va m) (hx : Ints S' w vb x) :
    Calls Try.prog 13 #[va, vb] w (Post w fun _ r => r = .tuple #[.int .i64 (evalS m x).1, .bool (evalS m x).2.1, .int .i64 (evalS m x).2.2]) := by
  obtain ⟨cols, ll⟩ := m
  obtain ⟨ra, rfl, la⟩ := ha
  obtain ⟨aa, acap, rfl, aad, al1, alm⟩ := la.form
  obtain ⟨ab, nb, rfl, bd, bl1, blm⟩ := hx.form
  dsimp only at la al1 aad ⊢
  obtain ⟨E, hE⟩ : ∃ E, E = evalS ⟨cols, ll⟩ x := ⟨_, rfl⟩
  rw [← hE]
  unfold evalS at hE
  dsimp only at hE
  obtain ⟨c1, hc1⟩ : ∃ c1, c1 = checkC ⟨cols, ll⟩ := ⟨_, rfl⟩
  rw [← hc1] at hE
  have HC1 := Lib.hid hc1.symm
  have HE := Lib.hid hE
  have ex := ext_alloc' (ext_alloc w (.cells #[.int .i64 cols, .slice aa ll.length acap] 24)) (.cells #[.slice ab x.length nb] 25)
  have r0 := (row_new w [.int .i64 cols, .slice aa ll.length acap] 24).alloc (.cells #[.slice ab x.length nb] 25)
  have r1 := row_new (w.alloc (.cells #[.int .i64 cols, .slice aa ll.length acap] 24)) [.slice ab x.length nb] 25
  simp only [World.size_alloc] at r1
  have KC := Lib.hid (check_calls (v := .agg #[.int .i64 cols, .slice aa ll.length acap]) (m := ⟨cols, ll⟩) ⟨_, rfl, la.ext ex⟩)
  rw [← hc1] at KC
  have LA := Lib.hid la
  have HX := Lib.hid hx
  clear hE hc1 la hx
  go_enter Try.func13, Try.ntmps13
  go_wp2_with fail
  refine KC.out.mono ?_
  rintro _ w1 ⟨_, rfl, hb1, rfl⟩
  have hx1 := ext_trans ex hb1
  have R0 := r0.ext hb1
  have R1 := r1.ext hb1
  clear KC r0 r1 ex hb1
  by_cases h1 : ¬ c1 = 0
  · have e1 : (c1 != 0) = true := by simp [h1]
    have R : Hid (E = (0, false, c1)) := Lib.hid (by rw [HE.out, if_pos h1])
    clear h1
    go_wp2
    refine bodyPost_ret (v := .tuple #[.int .i64 0, .bool false, .int .i64 c1]) (by simp [results, Try.results13, go_sem]) rfl ?_
    exact .mk hx1 (by rw [R.out])
  have h1 := Classical.not_not.1 h1
  have e1 : (c1 != 0) = false := by simp [h1]
  have HE := Lib.hid (HE.out.trans (if_neg (by simp [h1])))
  have OK := Lib.hid (checkC_ok.1 (HC1.out.trans h1))
  obtain ⟨q0, q1⟩ := R0.two
  have qm := R1.cell (j := 0) rfl
  clear h1
  by_cases h2 : ¬ (x.length : Int) = cols
  · have e2 : ((x.length : Int) != cols) = true := by simp [h2]
    have R : Hid (E = (0, false, 15)) := Lib.hid (by rw [HE.out, modelE_len h2, if_pos (by omega)])
    clear h2
    go_wp2
    refine bodyPost_ret (v := .tuple #[.int .i64 0, .bool false, .int .i64 15]) (by simp [results, Try.results13, go_sem]) rfl ?_
    exact .mk hx1 (by rw [R.out])
  have h2 := Classical.not_not.1 h2
  have e2 : ((x.length : Int) != cols) = false := by simp [h2]
  have H2 := Lib.hid h2
  have hcl : cols ≤ 4096 := OK.out.c1
  have hxl : x.length ≤ 4096 := by omega
  obtain ⟨i0, hi, hz0, hz1, hz2⟩ := info_parts info_int
  have HQ := Lib.hid (idx_one Try.underlying25 hi hz1 bd)
  have HC := Lib.hid (ints_cells0 HX.out)
  clear h2 hi hz0 hz1 hz2
  go_wp2
  go_loopw [23] (fun i wr => ∃ k : Nat, k ≤ x.length ∧ i = .int .i64 k ∧ Below w.heap.size w wr ∧ Row wr w.heap.size 24 [.int .i64 cols, .slice aa ll.length acap] ∧ Row wr (w.heap.size + 1) 25 [.slice ab x.length nb] ∧ Hid (∀ j, j < k → modelAt x j = true)) (fun i _ => x.length - (intOf i).toNat)
  case atStart => exact ⟨0, Nat.zero_le _, rfl, hx1, R0, R1, Lib.hid fun j hj => absurd hj (by omega)⟩
  case round =>
    obtain ⟨k, hk, rfl, hb, hr0, hr1, hM⟩ := hrel
    clear q0 q1 qm R0 R1 hx1
    obtain ⟨q0, q1⟩ := hr0.two
    have qm := hr1.cell (j := 0) rfl
    by_cases hlt : k < x.length
    · have q := HQ.out k hlt
      have cx := cells_at bd hb HC.out k hlt
      obtain ⟨y, hy⟩ : ∃ y, y = nth x k := ⟨_, rfl⟩
      rw [← hy] at cx
      have HY := Lib.hid hy
      have HN := Lib.hid (fun (h : modelAt x k = true) => (fun j hj => by
        rcases Nat.lt_or_ge j k with h1 | h1
        · exact hM.out j h1
        · obtain rfl : j = k := by omega
          exact h : ∀ j, j < k + 1 → modelAt x j = true))
      clear hy
      by_cases h1 : y = (k : Int) + 1
      · have e2 : (y != (k : Int) + 1) = false := by simp [h1]
        have HM2 := Lib.hid (HN.out (by unfold modelAt; rw [← HY.out, decide_eq_true h1]; rfl))
        clear h1
        go_wp2
        go_roundw
        case rel => exact ⟨k + 1, by omega, by go_num, hb, hr0, hr1, HM2⟩
        case measure => simp [intOf]; omega
      have e2 : (y != (k : Int) + 1) = true := by simp [h1]
      by_cases h2 : y = -(k : Int) - 1
      · have e3 : (y != -(k : Int) - 1) = false := by simp [h2]
        have HM2 := Lib.hid (HN.out (by unfold modelAt; rw [← HY.out, decide_eq_true h2]; simp))
        clear h1 h2
        go_wp2
        go_roundw
        case rel => exact ⟨k + 1, by omega, by go_num, hb, hr0, hr1, HM2⟩
        case measure => simp [intOf]; omega
      · have e3 : (y != -(k : Int) - 1) = true := by simp [h2]
        have R : Hid (E = (0, false, 3)) := Lib.hid (by rw [HE.out, modelE_bad H2.out hlt (by unfold modelAt; rw [← HY.out, decide_eq_false h1, decide_eq_false h2]; rfl), if_pos (by omega)])
        clear h1 h2
        go_wp2
        refine bodyPost_ret (v := .tuple #[.int .i64 0, .bool false, .int .i64 3]) (by simp [results, Try.results13, go_sem]) rfl ?_
        exact .mk hb (by rw [R.out])
    · have hM' : ∀ j, j < x.length → modelAt x j = true := fun j hj => hM.out j (by omega)
      have hgr : ∀ r ∈ ll, ∀ y ∈ r, goodP cols y = true := fun r hr y hy => row_good OK.out hr hy
      have HE := Lib.hid (HE.out.trans (if_neg (by rw [modelE_ok H2.out hM']; simp)))
      have hix : wrongFrom (fun r => !(fun r => !(r.any (litP x))) r) ll 0 = wrongP ll x := wrongFrom_congr (fun r hr => by
        show (!!(r.any (litP x))) = _
        rw [Bool.not_not]
        exact model_row hM' H2.out (by omega) (hgr r hr)) _ 0 rfl
      have KI := Lib.hid ((indexRows_quiet (LA.out.ext hb) (g := 40) (cp := .pointer (some ⟨w.heap.size + 1, 0, none⟩)) (fun r => !(r.any (litP x))) (fun args w => by rfl)
        (fun W hW k hk u hu => evalRow_quiet (HX.out.ext (ext_trans hb hW.ext)) (cell_ext qm hW.ext) hu (fun y hy => by
          have h1 := good_var (by omega) (hgr _ (nthL_mem hk) y hy)
          have h2 := varP_good (by omega) (hgr _ (nthL_mem hk) y hy)
          have h3 := H2.out
          omega))).mono fun _ _ h => h.take)
      rw [hix] at KI
      obtain ⟨c3, hc3⟩ : ∃ c3, c3 = wrongP ll x := ⟨_, rfl⟩
      rw [← hc3] at KI HE
      clear hix hc3 hgr hM' hM
      go_wp2_with fail
      refine KI.out.mono ?_
      rintro _ w3 ⟨_, rfl, hq3, rfl⟩
      have hb3 := ext_trans hb hq3.ext
      clear KI q0 q1 qm
      by_cases h3 : 0 ≤ c3
      · have R : Hid (E = (c3, false, 0)) := Lib.hid (by rw [HE.out, if_pos h3])
        go_wp2
        all_goals
          refine bodyPost_ret (v := .tuple #[.int .i64 c3, .bool false, .int .i64 0]) (by simp [results, Try.results13, go_sem]; try omega) rfl ?_
          exact .mk hb3 (by rw [R.out])
      · have R : Hid (E = (0, true, 0)) := Lib.hid (by rw [HE.out, if_neg h3])
        go_wp2
        all_goals
          refine bodyPost_ret (v := .tuple #[.int .i64 0, .bool true, .int .i64 0]) (by simp [results, Try.results13, go_sem]; try omega) rfl ?_
          exact .mk hb3 (by rw [R.out])
end Go.Proofs.Ytifcgcdbebgahaa
