/- The walk of ClausesKeeps. Printed by law41.py. -/
import Derived.Test.YtifcgcdbebgahaaClLaw4
namespace Go.Proofs.Ytifcgcdbebgahaa
set_option linter.unusedVariables false
open Go.RowKit
attribute [local go_sem ↓] Go.wp_at_zero Go.wp_at_succ

set_option maxRecDepth 100000 in
set_option maxHeartbeats 8000000 in
theorem walkClausesKeeps {w : World} {vm : Value} {m : Mx} (hm : MatV TT w vm m) (b : Int) :
    Calls Try.prog 10 #[vm, .int .u16 b] w (Post w fun _ r => r = .bool true) := by
  obtain ⟨cols, ll⟩ := m
  obtain ⟨rm, rfl, la⟩ := hm
  obtain ⟨aa, acap, rfl, _⟩ := la.form
  dsimp only at la ⊢
  have hm : MatV TT w (.agg #[.int .i64 cols, .slice aa ll.length acap]) ⟨cols, ll⟩ := ⟨_, rfl, la⟩
  clear la
  have HB := Below.refl w.heap.size w
  go_enter Try.func10, Try.ntmps10
  go_wp2_with fail
  refine (few_calls (S := TT) (S' := TT) (ls := []) (hm.ext (by (repeat (first | exact Below.refl _ _ | refine ext_alloc' ?_ _)))) (.nil _ _)).mono ?_
  rintro _ w1 ⟨_, rfl, hb, rfl⟩
  have hYY := ext_trans (by (repeat (first | exact Below.refl _ _ | refine ext_alloc' ?_ _)) : Below w.heap.size w _) hb
  have R1 : Row w1 (w.heap.size) 24 [.int .i64 cols, .slice aa ll.length acap] := Row.ext (by repeat (first | exact row_at _ _ _ _ (by simp) | refine Row.alloc ?_ _)) hb
  replace hm := hm.ext hYY
  replace HB := ext_trans HB hYY
  clear hYY hb
  cases hf : fewL ⟨cols, ll⟩ [] with
  | false =>
    clear hf
    obtain ⟨R1q0, R1q1⟩ := R1.two
    have R1l := R1.lt
    go_wp2_with fail
    refine (awake_calls _).mono ?_
    rintro _ w2 ⟨_, rfl, hb, rfl⟩
    have hYY := ext_trans (by (repeat (first | exact Below.refl _ _ | refine ext_alloc' ?_ _)) : Below w1.heap.size w1 _) hb
    replace hm := hm.ext hYY
    replace R1 := R1.ext hYY
    replace HB := ext_trans HB hYY
    clear R1q0 R1q1 R1l hYY hb
    go_wp2
    go_ret
    exact .mk HB rfl
  | true =>
  obtain ⟨hfl, hfc⟩ := fewL_true hf
  have HFC := Lib.hid hfc
  have HRL : Hid (sizesS ⟨cols, ll⟩ = 0 → ∀ r ∈ (⟨cols, ll⟩ : Mx).rows, r.length ≤ 100000) := Lib.hid (fun h r hr => by have := (fewC_true HFC.out h).2.2 r hr; omega)
  clear hf hfl hfc
  obtain ⟨⟨c2, N⟩, e2, hA⟩ : ∃ m2 e2, normalS ⟨cols, ll⟩ = (m2, e2) := ⟨_, _, rfl⟩
  have HA := Lib.hid hA
  clear hA
  obtain ⟨R1q0, R1q1⟩ := R1.two
  have R1l := R1.lt
  go_wp2_with fail
  refine (norm_lit (c := c2) (l := N) (e := e2) (n := N.length) (hm.ext (by (repeat (first | exact Below.refl _ _ | refine ext_alloc' ?_ _)))) HRL.out HA.out rfl).mono ?_
  rintro _ w2 ⟨_, rfl, hb, a1, k1, rfl, h1⟩
  have hYY := ext_trans (by (repeat (first | exact Below.refl _ _ | refine ext_alloc' ?_ _)) : Below w1.heap.size w1 _) hb
  replace hm := hm.ext hYY
  replace R1 := R1.ext hYY
  replace HB := ext_trans HB hYY
  clear R1q0 R1q1 R1l hYY hb
  by_cases h0 : ¬ e2 = 0
  ·
    have e0 : (e2 != 0) = true := by simp [h0]
    clear h0
    obtain ⟨R1q0, R1q1⟩ := R1.two
    have R1l := R1.lt
    go_wp2_with fail
    refine (awake_calls _).mono ?_
    rintro _ w3 ⟨_, rfl, hb, rfl⟩
    have hYY := ext_trans (by (repeat (first | exact Below.refl _ _ | refine ext_alloc' ?_ _)) : Below w2.heap.size w2 _) hb
    have R2 : Row w3 (w2.heap.size) 24 [.int .i64 c2, .slice a1 N.length k1] := Row.ext (by repeat (first | exact row_at _ _ _ _ (by simp) | refine Row.alloc ?_ _)) hb
    replace hm := hm.ext hYY
    replace h1 := h1.ext hYY
    replace R1 := R1.ext hYY
    replace HB := ext_trans HB hYY
    clear R1q0 R1q1 R1l hYY hb
    go_wp2
    go_ret
    exact .mk HB rfl
  have h0 := Classical.not_not.1 h0
  have e0 : (e2 != 0) = false := by simp [h0]
  obtain ⟨hz, hg, hx⟩ := normal_zero (h0 ▸ HA.out)
  injection hx with hx1 hx2
  subst hx1
  have HN : Hid (N = normP ll) := Lib.hid hx2
  have HG := Lib.hid hg
  have hcs : c2 ≤ 14 := (fewC_true HFC.out hz).2.1
  have hcz : 0 ≤ c2 := (sizesS_zero.1 hz).1.1
  have hlln : ll.length ≤ 40 := (fewC_true HFC.out hz).1
  have HNF : Hid (NF c2 ll N) := Lib.hid (by rw [HN.out]; exact norm_nf (by omega) hg)
  have HRL2 : Hid (sizesS ⟨c2, N⟩ = 0 → ∀ r ∈ (⟨c2, N⟩ : Mx).rows, r.length ≤ 100000) := Lib.hid (fun _ r hr => by obtain ⟨r', hr', hle⟩ := HNF.out.short r hr; have := HRL.out hz r' hr'; omega)
  have HA2 := Lib.hid (normal_nf hz HNF.out)
  have HCK := Lib.hid (nf_ok hz HNF.out)
  have HCZ := Lib.hid (checkC_ok.2 HCK.out)
  clear h0 hz hg hx2
  obtain ⟨R1q0, R1q1⟩ := R1.two
  have R1l := R1.lt
  go_wp2_with fail
  refine (norm_lit (c := c2) (l := N) (e := 0) (n := N.length) (h1.ext (by (repeat (first | exact Below.refl _ _ | refine ext_alloc' ?_ _)))) HRL2.out HA2.out rfl).mono ?_
  rintro _ w3 ⟨_, rfl, hb, a2, k2, rfl, h2⟩
  have hYY := ext_trans (by (repeat (first | exact Below.refl _ _ | refine ext_alloc' ?_ _)) : Below w2.heap.size w2 _) hb
  have R2 : Row w3 (w2.heap.size) 24 [.int .i64 c2, .slice a1 N.length k1] := Row.ext (by repeat (first | exact row_at _ _ _ _ (by simp) | refine Row.alloc ?_ _)) hb
  replace hm := hm.ext hYY
  replace h1 := h1.ext hYY
  replace R1 := R1.ext hYY
  replace HB := ext_trans HB hYY
  clear R1q0 R1q1 R1l hYY hb
  obtain ⟨R1q0, R1q1⟩ := R1.two
  have R1l := R1.lt
  obtain ⟨R2q0, R2q1⟩ := R2.two
  have R2l := R2.lt
  go_wp2_with fail
  refine (model_calls _ ⟨hcz, hcs⟩ _).mono ?_
  rintro _ w4 ⟨_, rfl, hb, md, hIM, hOm⟩
  have hYY := ext_trans (by (repeat (first | exact Below.refl _ _ | refine ext_alloc' ?_ _)) : Below w3.heap.size w3 _) hb
  have R3 : Row w4 (w3.heap.size) 24 [.int .i64 c2, .slice a2 N.length k2] := Row.ext (by repeat (first | exact row_at _ _ _ _ (by simp) | refine Row.alloc ?_ _)) hb
  replace hm := hm.ext hYY
  replace h1 := h1.ext hYY
  replace h2 := h2.ext hYY
  replace R1 := R1.ext hYY
  replace R2 := R2.ext hYY
  replace HB := ext_trans HB hYY
  clear R1q0 R1q1 R1l R2q0 R2q1 R2l hYY hb
  have hd := (Ints.of_own hOm (hIM.wf (by omega))).mono (S' := TT) (fun _ _ => trivial)
  obtain ⟨am, cm, rfl, _⟩ := hd.form
  obtain ⟨i1, hE1⟩ := evalS_ok HCK.out hIM
  have hNT := norm_true (n := c2) (by omega) HG.out hIM
  rw [← HN.out] at hNT
  obtain ⟨ok, hok⟩ : ∃ ok, ok = decide (∀ r ∈ N, trueP r md = true) := ⟨_, rfl⟩
  rw [← hok] at hE1
  have HOK : Hid (ok = true ↔ ∀ r ∈ ll, trueP r md = true) := Lib.hid (by rw [hok, decide_eq_true_iff]; exact hNT)
  have HE1 := Lib.hid hE1
  clear hOm hIM hE1 hNT hok
  obtain ⟨R1q0, R1q1⟩ := R1.two
  have R1l := R1.lt
  obtain ⟨R2q0, R2q1⟩ := R2.two
  have R2l := R2.lt
  obtain ⟨R3q0, R3q1⟩ := R3.two
  have R3l := R3.lt
  go_wp2_with fail
  refine (eval_lit (i := i1) (q := ok) (e := 0) (h1.ext (by (repeat (first | exact Below.refl _ _ | refine ext_alloc' ?_ _)))) (hd.ext (by (repeat (first | exact Below.refl _ _ | refine ext_alloc' ?_ _)))) HE1.out).mono ?_
  rintro _ w5 ⟨_, rfl, hb, rfl⟩
  have hYY := ext_trans (by (repeat (first | exact Below.refl _ _ | refine ext_alloc' ?_ _)) : Below w4.heap.size w4 _) hb
  replace hm := hm.ext hYY
  replace h1 := h1.ext hYY
  replace h2 := h2.ext hYY
  replace hd := hd.ext hYY
  replace R1 := R1.ext hYY
  replace R2 := R2.ext hYY
  replace R3 := R3.ext hYY
  replace HB := ext_trans HB hYY
  clear R1q0 R1q1 R1l R2q0 R2q1 R2l R3q0 R3q1 R3l hYY hb
  obtain ⟨R1q0, R1q1⟩ := R1.two
  have R1l := R1.lt
  obtain ⟨R2q0, R2q1⟩ := R2.two
  have R2l := R2.lt
  obtain ⟨R3q0, R3q1⟩ := R3.two
  have R3l := R3.lt
  go_wp2_with fail
  refine (same_lit (h1.ext (by (repeat (first | exact Below.refl _ _ | refine ext_alloc' ?_ _)))) (h2.ext (by (repeat (first | exact Below.refl _ _ | refine ext_alloc' ?_ _)))) rfl).mono ?_
  rintro _ w6 ⟨_, rfl, hb, rfl⟩
  have hYY := ext_trans (by (repeat (first | exact Below.refl _ _ | refine ext_alloc' ?_ _)) : Below w5.heap.size w5 _) hb
  replace hm := hm.ext hYY
  replace h1 := h1.ext hYY
  replace h2 := h2.ext hYY
  replace hd := hd.ext hYY
  replace R1 := R1.ext hYY
  replace R2 := R2.ext hYY
  replace R3 := R3.ext hYY
  replace HB := ext_trans HB hYY
  clear R1q0 R1q1 R1l R2q0 R2q1 R2l R3q0 R3q1 R3l hYY hb
  obtain ⟨R1q0, R1q1⟩ := R1.two
  have R1l := R1.lt
  obtain ⟨R2q0, R2q1⟩ := R2.two
  have R2l := R2.lt
  obtain ⟨R3q0, R3q1⟩ := R3.two
  have R3l := R3.lt
  go_wp2_with fail
  refine (check_calls (m := ⟨c2, N⟩) (h1.ext (by (repeat (first | exact Below.refl _ _ | refine ext_alloc' ?_ _))))).mono ?_
  rintro _ w7 ⟨_, rfl, hb, rfl⟩
  have hYY := ext_trans (by (repeat (first | exact Below.refl _ _ | refine ext_alloc' ?_ _)) : Below w6.heap.size w6 _) hb
  replace hm := hm.ext hYY
  replace h1 := h1.ext hYY
  replace h2 := h2.ext hYY
  replace hd := hd.ext hYY
  replace R1 := R1.ext hYY
  replace R2 := R2.ext hYY
  replace R3 := R3.ext hYY
  replace HB := ext_trans HB hYY
  clear R1q0 R1q1 R1l R2q0 R2q1 R2l R3q0 R3q1 R3l hYY hb
  rw [HCZ.out]
  have HLL : Hid (Lists TT w7 (.slice aa ll.length acap) ll) := Lib.hid (by obtain ⟨rv, e, h⟩ := hm; simp only [Value.agg.injEq] at e; cases e; exact h)
  obtain ⟨aq, bq, eq, adq, _, _⟩ := HLL.out.form
  simp only [Value.slice.injEq, true_and] at eq
  obtain ⟨rfl, rfl⟩ := eq
  obtain ⟨j0, hj0, hy0, hy1, hy2⟩ := info_parts info_ints
  have HQA := Lib.hid (idx_one Try.underlying22 hj0 hy1 adq)
  have HF := Lib.hid hd
  obtain ⟨q0, q1⟩ := R1.two
  have z0 := R1.lt
  clear hj0 hy0 hy1 hy2 adq hm h1 h2 R1 R2 R3 hd
  go_wp2
  go_loopw [63] (fun i wr => ∃ k : Nat, k ≤ ll.length ∧ i = .int .i64 k ∧ Below w.heap.size w wr ∧ Below w7.heap.size w7 wr ∧ Hid (∀ j, j < k → trueP (nthL ll j) md = true)) (fun i _ => ll.length - (intOf i).toNat)
  case atStart => exact ⟨0, Nat.zero_le _, rfl, HB, .refl _ _, Lib.hid fun j hj => absurd hj (by omega)⟩
  case round =>
    clear HB q0 q1 z0
    obtain ⟨k, hk, rfl, HB, HBL, HT⟩ := hrel
    have hd := HF.out.ext HBL
    by_cases hlt : k < ll.length
    ·
      have q := HQA.out k hlt
      obtain ⟨u, cu, iu⟩ := HLL.out.at HBL hlt
      obtain ⟨au, ku, rfl, _⟩ := iu.form
      have HMM := Lib.hid (nthL_mem hlt)
      obtain ⟨row, hrow⟩ : ∃ row, row = nthL ll k := ⟨_, rfl⟩
      rw [← hrow] at cu iu HMM
      have HRW := Lib.hid hrow
      obtain ⟨t, ht⟩ : ∃ t, t = trueP row md := ⟨_, rfl⟩
      have HTT := Lib.hid ht.symm
      clear hrow ht
      go_wp2_with fail
      refine (rtrue_calls (iu.ext (by (repeat (first | exact Below.refl _ _ | refine ext_alloc' ?_ _)))) (hd.ext (by (repeat (first | exact Below.refl _ _ | refine ext_alloc' ?_ _))))).mono ?_
      rintro _ w1 ⟨_, rfl, hb, rfl⟩
      have hYY := ext_trans (by (repeat (first | exact Below.refl _ _ | refine ext_alloc' ?_ _)) : Below wr.heap.size wr _) hb
      replace hd := hd.ext hYY
      replace iu := iu.ext hYY
      replace HB := ext_trans HB hYY
      replace HBL := ext_trans HBL hYY
      clear hYY hb
      rw [HTT.out]
      cases t with
      | true =>
        have HT2 : Hid (∀ j, j < k + 1 → trueP (nthL ll j) md = true) := Lib.hid (fun j hj => by
          by_cases e : j = k
          · rw [e, ← HRW.out]; exact HTT.out
          · exact HT.out j (by omega))
        clear HT cu
        go_wp2
        go_roundw
        case rel => exact ⟨k + 1, by omega, by go_num, HB, HBL, HT2⟩
        case measure => simp [intOf]; omega
      | false =>
        have hof : ok = false := by
          cases e : ok with
          | false => rfl
          | true => have := HOK.out.1 e row HMM.out; rw [HTT.out] at this; cases this
        subst hof
        clear cu
        go_wp2_with fail
        refine (awake_calls _).mono ?_
        rintro _ w2 ⟨_, rfl, hb, rfl⟩
        have hYY := ext_trans (by (repeat (first | exact Below.refl _ _ | refine ext_alloc' ?_ _)) : Below w1.heap.size w1 _) hb
        replace hd := hd.ext hYY
        replace iu := iu.ext hYY
        replace HB := ext_trans HB hYY
        replace HBL := ext_trans HBL hYY
        clear hYY hb
        go_wp2
        go_ret
        exact .mk HB rfl
    ·
      obtain rfl : k = ll.length := by omega
      have hof : ok = true := HOK.out.2 (fun r hr => by
        obtain ⟨j, hj, rfl⟩ := List.getElem_of_mem hr
        have := HT.out j hj
        rwa [nthL_eq hj] at this)
      subst hof
      clear HT
      go_wp2_with fail
      refine (awake_calls _).mono ?_
      rintro _ w1 ⟨_, rfl, hb, rfl⟩
      have hYY := ext_trans (by (repeat (first | exact Below.refl _ _ | refine ext_alloc' ?_ _)) : Below wr.heap.size wr _) hb
      replace hd := hd.ext hYY
      replace HB := ext_trans HB hYY
      replace HBL := ext_trans HBL hYY
      clear hYY hb
      go_wp2
      go_ret
      exact .mk HB rfl
end Go.Proofs.Ytifcgcdbebgahaa
