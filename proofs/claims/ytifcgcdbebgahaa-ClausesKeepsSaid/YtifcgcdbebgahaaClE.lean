/- Models and assignments; what is small, in the reference. -/
import Derived.Test.YtifcgcdbebgahaaClD
namespace Go.Proofs.Ytifcgcdbebgahaa
set_option linter.unusedVariables false
open Go.RowKit
attribute [local go_sem ↓] Go.wp_at_zero Go.wp_at_succ

theorem Ints.take {S : Nat → Prop} {w : World} {a : Option Addr} {n cap : Nat} {l : List Int} (h : Ints S w (.slice a n cap) l) {k : Nat} (hk : k ≤ l.length) : Ints S w (.slice a k cap) (l.take k) := by
  obtain ⟨a', cap', hv, ha, h1, h2, hc, hf⟩ := h
  injection hv with e1 e2 e3
  subst e1 e2 e3
  have hl : (l.take k).length = k := by rw [List.length_take]; omega
  refine ⟨a, cap, by rw [hl], ?_, by omega, h2, fun j hj => ?_, fun x hx => hf x (List.mem_of_mem_take hx)⟩
  · rcases ha with ⟨h, h'⟩ | ⟨b, off, rfl, hb, hs⟩
    · exact .inl ⟨by omega, h'⟩
    · exact .inr ⟨b, off, rfl, hb, hs⟩
  · rw [hl] at hj
    rw [hc j (by omega)]
    simp [nth, List.getElem?_take, hj]

/-- The error of a model. -/
def modelAt (m : List Int) (i : Nat) : Bool := decide (nth m i = (i : Int) + 1) || decide (nth m i = -(i : Int) - 1)
def modelE (v : Int) (m : List Int) : Int := if (m.length : Int) ≠ v then 15 else if (List.range m.length).all (modelAt m) = true then 0 else 3
theorem modelE_len {v : Int} {m : List Int} (h : (m.length : Int) ≠ v) : modelE v m = 15 := by unfold modelE; rw [if_pos h]
theorem modelE_bad {v : Int} {m : List Int} (h : (m.length : Int) = v) {k : Nat} (hk : k < m.length) (h2 : modelAt m k = false) : modelE v m = 3 := by
  unfold modelE
  rw [if_neg (by simp [h]), if_neg]
  intro ha
  rw [List.all_eq_true] at ha
  have := ha k (List.mem_range.2 hk)
  rw [h2] at this
  cases this
theorem modelE_ok {v : Int} {m : List Int} (h : (m.length : Int) = v) (h2 : ∀ k, k < m.length → modelAt m k = true) : modelE v m = 0 := by
  unfold modelE
  rw [if_neg (by simp [h]), if_pos]
  rw [List.all_eq_true]
  exact fun k hk => h2 k (List.mem_range.1 hk)

set_option maxRecDepth 100000 in
set_option maxHeartbeats 2000000 in
theorem refModel_quiet {S : Nat → Prop} {w : World} {va : Value} {m : List Int} (ha : Ints S w va m) (v : Int) :
    Calls Try.prog 44 #[.int .i64 v, va] w (QuietP w (.int .i64 (modelE v m))) := by
  obtain ⟨a, cap, rfl, ad, l1, lm, hc, _⟩ := ha
  unfold maxLen at lm
  obtain ⟨i0, hi, hz1, hz2, hz3⟩ := info_parts info_int
  have HQ := Lib.hid (idx_one Try.underlying25 hi hz2 ad)
  have HC := Lib.hid hc
  clear hc hi hz1 hz2 hz3
  obtain ⟨E, hE⟩ : ∃ E, E = modelE v m := ⟨_, rfl⟩
  rw [← hE]
  have HE := Lib.hid hE
  clear hE
  by_cases hl : ¬ (m.length : Int) = v
  · have e1 : ((m.length : Int) != v) = true := by simp [hl]
    have R : Hid (E = 15) := Lib.hid (by rw [HE.out, modelE_len hl])
    clear hl
    go_enter Try.func44, Try.ntmps44
    go_wp2
    go_ret
    exact .fin (int_eq R.out.symm) (.refl _)
  have hl := Classical.not_not.1 hl
  have e1 : ((m.length : Int) != v) = false := by simp [hl]
  have HL := Lib.hid hl
  clear hl
  go_enter Try.func44, Try.ntmps44
  go_wp2
  go_loopw [5] (fun i wr => ∃ k : Nat, k ≤ m.length ∧ i = .int .i64 k ∧ QW w wr ∧ Hid (∀ j, j < k → modelAt m j = true)) (fun i _ => m.length - (intOf i).toNat)
  case atStart => exact ⟨0, Nat.zero_le _, rfl, .refl _, Lib.hid (fun j hj => by omega)⟩
  case round =>
    obtain ⟨k, hk, rfl, hQ, hF⟩ := hrel
    by_cases hlt : k < m.length
    · have q := HQ.out k hlt
      have cx := cells_at ad hQ.ext HC.out k hlt
      obtain ⟨x, hx⟩ : ∃ x, x = nth m k := ⟨_, rfl⟩
      rw [← hx] at cx
      have HX := Lib.hid hx
      have HN : modelAt m k = true → Hid (∀ j, j < k + 1 → modelAt m j = true) := fun h => Lib.hid (fun j hj => by
        rcases Nat.lt_or_ge j k with h1 | h1
        · exact hF.out j h1
        · obtain rfl : j = k := by omega
          exact h)
      have HN := Lib.hid HN
      clear hx
      by_cases h1 : x = (k : Int) + 1
      · have e2 : (x != (k : Int) + 1) = false := by simp [h1]
        have H2 := HN.out (by unfold modelAt; rw [← HX.out, decide_eq_true h1]; rfl)
        clear h1
        go_wp2
        go_roundw
        case rel => exact ⟨k + 1, by omega, by go_num, hQ, H2⟩
        case measure => simp [intOf]; omega
      have e2 : (x != (k : Int) + 1) = true := by simp [h1]
      by_cases h2 : x = -(k : Int) - 1
      · have e3 : (x != -(k : Int) - 1) = false := by simp [h2]
        have H2 := HN.out (by unfold modelAt; rw [← HX.out, decide_eq_true h2]; simp)
        clear h1 h2
        go_wp2
        go_roundw
        case rel => exact ⟨k + 1, by omega, by go_num, hQ, H2⟩
        case measure => simp [intOf]; omega
      · have e3 : (x != -(k : Int) - 1) = true := by simp [h2]
        have R : Hid (E = 3) := Lib.hid (by rw [HE.out]; exact modelE_bad HL.out hlt (by unfold modelAt; rw [← HX.out, decide_eq_false h1, decide_eq_false h2]; rfl))
        clear h1 h2
        go_wp2
        go_ret
        exact .fin (int_eq R.out.symm) hQ
    · have R : Hid (E = 0) := Lib.hid (by rw [HE.out]; exact modelE_ok HL.out fun j hj => hF.out j (by omega))
      go_wp2
      go_ret
      exact .fin (int_eq R.out.symm) hQ

/-- The error of an assignment. -/
def astep (n : Int) (l : List Int) (k : Nat) : Int := if goodP n (nth l k) = false then 2 else if memB (l.take k) (nth l k) = true ∨ memB (l.take k) (wrap64 (-(nth l k))) = true then 7 else 0
def afrom (n : Int) (l : List Int) (k : Nat) : Int := if k < l.length then (if astep n l k ≠ 0 then astep n l k else afrom n l (k + 1)) else 0
termination_by l.length - k
def assignE (n : Int) (l : List Int) : Int := afrom n l 0
theorem afrom_end {n : Int} {l : List Int} {k : Nat} (h : l.length ≤ k) : afrom n l k = 0 := by rw [afrom, if_neg (by omega)]
theorem afrom_err {n : Int} {l : List Int} {k : Nat} (h : k < l.length) {x : Int} (hx : astep n l k = x) (h0 : x ≠ 0) : afrom n l k = x := by rw [afrom, if_pos h, hx, if_pos h0]
theorem afrom_next {n : Int} {l : List Int} {k : Nat} (h : k < l.length) (hx : astep n l k = 0) : afrom n l k = afrom n l (k + 1) := by rw [afrom, if_pos h, hx]; simp

set_option maxRecDepth 100000 in
set_option maxHeartbeats 2000000 in
theorem refAssignment_quiet {S : Nat → Prop} {w : World} {v : Value} {l : List Int} (h : Ints S w v l) {n : Int} (hn : 0 ≤ n ∧ n ≤ 100000) :
    Calls Try.prog 22 #[.int .i64 n, v] w (QuietP w (.int .i64 (assignE n l))) := by
  have h0 := h
  obtain ⟨a, cap, rfl, ad, l1, lm, hc, hwf⟩ := h
  have HI := Lib.hid h0
  unfold maxLen at lm
  obtain ⟨i, hi, hz1, hz2, hz3⟩ := info_parts info_int
  have HQ := Lib.hid (idx_one Try.underlying25 hi hz2 ad)
  have HC := Lib.hid hc
  obtain ⟨E, hE⟩ : ∃ E, E = assignE n l := ⟨_, rfl⟩
  rw [← hE]
  have HE := Lib.hid hE
  have HG := Lib.hid (fun W x => good_quiet W hn x)
  clear hc hE hwf h0
  go_enter Try.func22, Try.ntmps22
  go_wp2
  go_loopw [5] (fun i wr => ∃ k : Nat, k ≤ l.length ∧ i = .int .i64 k ∧ QW w wr ∧ Hid (E = afrom n l k)) (fun i _ => l.length - (intOf i).toNat)
  case atStart => exact ⟨0, Nat.zero_le _, rfl, .refl _, HE⟩
  case round =>
    obtain ⟨k, hk, rfl, hQ, hF⟩ := hrel
    by_cases hlt : k < l.length
    · have q := HQ.out k hlt
      have c := cells_at ad hQ.ext HC.out k hlt
      have HST := Lib.hid (fun x (hx : astep n l k = x) (h0 : x ≠ 0) => hF.out.trans (afrom_err hlt hx h0))
      have HNX := Lib.hid (fun (hx : astep n l k = 0) => hF.out.trans (afrom_next hlt hx))
      obtain ⟨x, hx⟩ : ∃ x, x = nth l k := ⟨_, rfl⟩
      rw [← hx] at c
      have HX := Lib.hid hx
      clear hx
      obtain ⟨g, hg⟩ : ∃ g, g = goodP n x := ⟨_, rfl⟩
      have HGX := Lib.hid ((HG.out wr x).mono fun _ _ h => h.take)
      rw [← hg] at HGX
      have HGG := Lib.hid hg
      clear hg
      go_wp2_with fail
      refine HGX.out.mono ?_
      rintro _ w2 ⟨_, rfl, hq2, rfl⟩
      have hQ2 := hQ.trans hq2
      clear hq2 HGX c
      cases g with
      | false =>
        have HR := Lib.hid (HST.out 2 (by unfold astep; rw [← HX.out, if_pos HGG.out.symm]) (by omega))
        go_wp2
        go_ret
        exact .fin (int_eq HR.out.symm) hQ2
      | true =>
        have c := cells_at ad hQ2.ext HC.out k hlt
        rw [← HX.out] at c
        have hkc : k ≤ cap := by omega
        have IT := (HI.out.take (k := k) (by omega)).ext hQ2.ext
        obtain ⟨b1, hb1⟩ : ∃ b1, b1 = memB (l.take k) x := ⟨_, rfl⟩
        obtain ⟨b2, hb2⟩ : ∃ b2, b2 = memB (l.take k) (wrap64 (-x)) := ⟨_, rfl⟩
        have H1 := Lib.hid (fun n => refHas_quiet (IT.drewN n) x)
        have H2 := Lib.hid (fun n => refHas_quiet (IT.drewN n) (wrap64 (-x)))
        rw [← hb1] at H1
        rw [← hb2] at H2
        have HB1 := Lib.hid hb1
        have HB2 := Lib.hid hb2
        clear hb1 hb2 IT
        cases b1 with
        | true =>
          have HR := Lib.hid (HST.out 7 (by unfold astep; rw [← HX.out, if_neg (by rw [← HGG.out]; simp), if_pos (.inl HB1.out.symm)]) (by omega))
          go_wp2_with fail
          go_quiet ((go_at_call 59; first | with_reducible exact quiet_calls (H1.out _) | with_reducible exact quiet_calls (H2.out _)))
          go_wp2
          go_ret
          exact .fin (int_eq HR.out.symm) (hQ2.drewN _)
        | false =>
          cases b2 with
          | true =>
            have HR := Lib.hid (HST.out 7 (by unfold astep; rw [← HX.out, if_neg (by rw [← HGG.out]; simp), if_pos (.inr HB2.out.symm)]) (by omega))
            go_wp2_with fail
            go_quiet ((go_at_call 59; first | with_reducible exact quiet_calls (H1.out _) | with_reducible exact quiet_calls (H2.out _)))
            go_wp2
            go_ret
            exact .fin (int_eq HR.out.symm) (hQ2.drewN _)
          | false =>
            have HR := Lib.hid (HNX.out (by unfold astep; rw [← HX.out, if_neg (by rw [← HGG.out]; simp), if_neg (by rw [← HB1.out, ← HB2.out]; simp)]))
            clear hF
            go_wp2_with fail
            go_quiet ((go_at_call 59; first | with_reducible exact quiet_calls (H1.out _) | with_reducible exact quiet_calls (H2.out _)))
            go_wp2
            go_roundw
            case rel => exact ⟨k + 1, by omega, by go_num, hQ2.drewN _, HR⟩
            case measure => simp [intOf]; omega
    · have HR := Lib.hid (hF.out.trans (afrom_end (by omega)))
      clear hF
      go_wp2
      go_ret
      exact .fin (int_eq HR.out.symm) hQ

/-! when clauses are small -/
def fewC (m : Mx) : Bool := decide (sizesS m ≠ 0) || ((m.rows.take 50).all (fun r => decide (r.length ≤ 20)) && (decide (m.rows.length ≤ 40) && decide (m.cols ≤ 14)))
theorem fewC_odd {m : Mx} (h : sizesS m ≠ 0) : fewC m = true := by unfold fewC; rw [decide_eq_true h]; rfl
theorem fewC_long {m : Mx} (h : sizesS m = 0) {k : Nat} (h1 : k < m.rows.length) (h2 : k < 50) (h3 : 20 < (nthL m.rows k).length) : fewC m = false := by
  have : (m.rows.take 50).all (fun r => decide (r.length ≤ 20)) = false := by
    rw [List.all_eq_false]
    refine ⟨nthL m.rows k, ?_, by simp; omega⟩
    rw [nthL_eq h1, List.mem_take_iff_getElem]
    exact ⟨k, by omega, rfl⟩
  unfold fewC
  rw [decide_eq_false (by simp [h]), this]; rfl
theorem fewC_short {m : Mx} (h : sizesS m = 0) (h1 : ∀ j, j < m.rows.length → j < 50 → (nthL m.rows j).length ≤ 20) : fewC m = (decide (m.rows.length ≤ 40) && decide (m.cols ≤ 14)) := by
  have : (m.rows.take 50).all (fun r => decide (r.length ≤ 20)) = true := by
    rw [List.all_eq_true]
    intro r hr
    rw [List.mem_take_iff_getElem] at hr
    obtain ⟨j, hj, rfl⟩ := hr
    have := h1 j (by omega) (by omega)
    rw [nthL_eq (by omega)] at this
    exact decide_eq_true this
  unfold fewC
  rw [decide_eq_false (by simp [h]), this]; rfl

set_option maxRecDepth 100000 in
set_option maxHeartbeats 2000000 in
theorem refFew_calls {S : Nat → Prop} {w : World} {v : Value} {m : Mx} (h : MatV S w v m) :
    Calls Try.prog 36 #[v] w (Post w fun _ r => r = .bool (fewC m)) := by
  obtain ⟨rv, rfl, hl⟩ := h
  obtain ⟨cols, ll⟩ := m
  obtain ⟨a, cap, rfl, ad, l1, lm⟩ := hl.form
  dsimp only at hl l1 ad ⊢
  unfold maxLen at lm
  obtain ⟨i, hi, hz1, hz2, hz3⟩ := info_parts info_ints
  have HQ := Lib.hid (idx_one Try.underlying22 hi hz2 ad)
  clear hi hz1 hz2 hz3
  obtain ⟨E, hE⟩ : ∃ E, E = fewC ⟨cols, ll⟩ := ⟨_, rfl⟩
  rw [← hE]
  have ex := ext_alloc w (.cells #[.int .i64 cols, .slice a ll.length cap] 24)
  have HE := Lib.hid hE
  clear hE
  obtain ⟨sz, hsz⟩ : ∃ sz, sz = sizesS ⟨cols, ll⟩ := ⟨_, rfl⟩
  have KS := Lib.hid (refSizes_calls (v := .agg #[.int .i64 cols, .slice a ll.length cap]) (m := ⟨cols, ll⟩) ⟨_, rfl, hl.ext ex⟩)
  rw [← hsz] at KS
  have HSZ := Lib.hid hsz
  clear hsz
  have r0 := row_new w [.int .i64 cols, .slice a ll.length cap] 24
  go_enter Try.func36, Try.ntmps36
  go_wp2_with fail
  refine KS.out.mono ?_
  rintro _ w1 ⟨_, rfl, hb1, rfl⟩
  have hx1 := ext_trans ex hb1
  have r1 := r0.ext hb1
  clear KS r0 ex hb1
  by_cases h0 : ¬ sz = 0
  · have e1 : (sz != 0) = true := by simp [h0]
    have R : Hid (E = true) := Lib.hid (by rw [HE.out]; exact fewC_odd (HSZ.out ▸ h0))
    clear h0
    go_wp2
    go_ret
    exact .mk hx1 (bool_eq R.out.symm)
  have h0 := Classical.not_not.1 h0
  have e1 : (sz != 0) = false := by simp [h0]
  have HSZ0 : Hid (sizesS ⟨cols, ll⟩ = 0) := Lib.hid (HSZ.out.symm.trans h0)
  clear h0
  have fin : ∀ (k : Nat), (∀ j, j < ll.length → j < 50 → (nthL ll j).length ≤ 20) → Hid (E = (decide (ll.length ≤ 40) && decide (cols ≤ 14))) := fun k h => Lib.hid (HE.out.trans (fewC_short HSZ0.out h))
  have FIN := Lib.hid fin
  clear fin
  go_wp2
  go_loopw [3] (fun i wr => ∃ k : Nat, k ≤ ll.length ∧ k ≤ 50 ∧ i = .int .i64 k ∧ Below w.heap.size w wr ∧ Row wr w.heap.size 24 [.int .i64 cols, .slice a ll.length cap] ∧ Hid (∀ j, j < k → (nthL ll j).length ≤ 20)) (fun i _ => ll.length - (intOf i).toNat)
  case atStart => exact ⟨0, Nat.zero_le _, by omega, rfl, hx1, r1, Lib.hid (fun j hj => by omega)⟩
  case round =>
    obtain ⟨k, hk, hk2, rfl, hb, hr, hF⟩ := hrel
    obtain ⟨q0, q1⟩ := hr.two
    have endw : (∀ j, j < ll.length → j < 50 → (nthL ll j).length ≤ 20) → Hid (E = (decide (ll.length ≤ 40) && decide (cols ≤ 14))) := FIN.out 0
    by_cases hlt : k < ll.length
    · by_cases h20 : k < 50
      · have q := HQ.out k hlt
        obtain ⟨u, cu, iu⟩ := hl.at hb hlt
        obtain ⟨a', cap', rfl, _, ll1, ll2⟩ := iu.form
        unfold maxLen at ll2
        have hi20 : (k : Int) < 50 := by omega
        by_cases h3 : 20 < (nthL ll k).length
        · have HR : Hid (E = false) := Lib.hid (HE.out.trans (fewC_long HSZ0.out hlt h20 h3))
          clear endw
          go_wp2
          go_ret
          exact .mk hb (bool_eq HR.out.symm)
        · have HR : Hid (∀ j, j < k + 1 → (nthL ll j).length ≤ 20) := Lib.hid (fun j hj => by
            rcases Nat.lt_or_ge j k with h | h
            · exact hF.out j h
            · obtain rfl : j = k := by omega
              omega)
          clear endw hF
          go_wp2
          go_roundw
          case rel => exact ⟨k + 1, by omega, by omega, by go_num, hb, hr, HR⟩
          case measure => simp [intOf]; omega
      · have hi20 : ¬ (k : Int) < 50 := by omega
        have HR := endw (fun j h1 h2 => hF.out j (by omega))
        have hk20 : ¬ ll.length ≤ 40 := by omega
        have d0 : decide (ll.length ≤ 40) = false := decide_eq_false hk20
        have HR2 : Hid (E = false) := Lib.hid (by rw [HR.out, d0]; rfl)
        clear endw HR
        go_wp2
        go_ret
        exact .mk hb (bool_eq HR2.out.symm)
    · have HR := endw (fun j h1 h2 => hF.out j (by omega))
      clear endw
      by_cases h14 : ll.length ≤ 40
      · have HR2 : Hid (E = decide (cols ≤ 14)) := Lib.hid (by rw [HR.out, decide_eq_true h14]; rfl)
        clear HR
        go_wp2
        go_ret
        exact .mk hb (bool_eq HR2.out.symm)
      · have HR2 : Hid (E = false) := Lib.hid (by rw [HR.out, decide_eq_false h14]; rfl)
        clear HR
        go_wp2
        go_ret
        exact .mk hb (bool_eq HR2.out.symm)
end Go.Proofs.Ytifcgcdbebgahaa
