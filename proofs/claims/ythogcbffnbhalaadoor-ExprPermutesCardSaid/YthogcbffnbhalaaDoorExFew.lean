/- Quantors and Few of the reference. -/
import Derived.Test.YthogcbffnbhalaaDoorExSize
namespace Go.Proofs.YthogcbffnbhalaaDoor
set_option linter.unusedVariables false
open Go.RowKit

theorem quantL_le (l : List Ex) (n : Nat) (h : ∀ e ∈ l, quantE e ≤ n) : quantL l ≤ n := by
  induction l with
  | nil => simp [quantL]
  | cons x l ih =>
    have h1 := h x (by simp)
    have h2 := ih (fun e he => h e (by simp [he]))
    simp only [quantL]; omega
theorem quantE_le_size (e : Ex) : quantE e ≤ sizeE e := by
  have key : ∀ n : Nat, (∀ e : Ex, sizeE e ≤ n → quantE e ≤ sizeE e) := by
    intro n
    induction n with
    | zero => intro e h; have := sizeE_pos e; omega
    | succ n ih =>
      intro e h
      cases e with
      | node op num xs =>
        simp only [sizeE, quantE] at h ⊢
        have : quantL xs ≤ sizeL xs := by
          apply quantL_le
          intro x hx
          obtain ⟨k, hk, rfl⟩ := List.getElem_of_mem hx
          have h1 := sizeL_nth hk
          rw [nthE_eq hk] at h1
          have := ih xs[k] (by omega)
          omega
        split <;> omega
  exact key _ e (Nat.le_refl _)

set_option maxRecDepth 100000 in
set_option maxHeartbeats 1000000 in
theorem quantors_calls {S : Nat → Prop} {w : World} {e : Ex} {v : Value} (h : ExprV S w e v) : ∀ W, Below w.heap.size w W → sizeE e ≤ 65536 →
    Calls Tryd.prog 30 #[v] W (Post W fun _ r => r = .int .i64 (quantE e)) := by
  induction h with
  | mk wo wn ha hl hm hc hx ih =>
    rename_i op num xs a cap us
    intro W hW hS
    obtain ⟨i0, hi, hz⟩ := info_e
    have hix := idx_three Tryd.underlying22 hi hz ha
    have hlen := length_le_size xs
    simp only [sizeE] at hS
    have hqs : ∀ k, k ≤ xs.length → quantL (xs.take k) ≤ 65536 := by
      intro k _
      apply quantL_le
      intro x hx'
      have := quantE_le_size x
      obtain ⟨i, hi, rfl⟩ := List.getElem_of_mem (List.mem_of_mem_take hx')
      have h1 := sizeL_nth hi
      rw [nthE_eq hi] at h1
      omega
    have HQ := Lib.hid hqs
    clear hqs
    go_enter Tryd.func30, Tryd.ntmps30
    go_wp2
    go_loopw [3, 4] (fun d i wr => ∃ k : Nat, k ≤ xs.length ∧ i = .int .i64 k ∧ d = .int .i64 (quantL (xs.take k) : Nat) ∧ Below W.heap.size W wr ∧
      Row wr W.heap.size 24 [.int .i64 op, .int .i64 num, .slice a xs.length cap]) (fun _ i _ => xs.length - (intOf i).toNat)
    case atStart => exact ⟨0, by omega, rfl, rfl, ext_alloc W _, row_new _ _ _⟩
    case round =>
      obtain ⟨k, hk, rfl, rfl, hb, hR⟩ := hrel
      have cr := hR.cell (j := 2) rfl
      by_cases hlt : k < xs.length
      · have q := hix k hlt
        have hwb := ext_trans hW hb
        obtain ⟨a', cap', e, c0, c1, c2⟩ := elem_parts ha hc hx hlt hwb
        have ik := ih k hlt
        rw [e] at ik
        have hsz := sizeL_nth hlt
        go_wp2_with fail
        refine (ik _ hwb (by omega)).mono ?_
        rintro _ w2 ⟨_, rfl, hb2, rfl⟩
        have hq1 := HQ.out k hk
        have hq2 := quantE_le_size (nthE xs k)
        have HT := Lib.hid (take_nthE hlt)
        have hR2 := hR.ext hb2
        by_cases hmx : quantL (xs.take k) < quantE (nthE xs k)
        · have hmi : ((quantL (xs.take k) : Nat) : Int) < (quantE (nthE xs k) : Nat) := by omega
          go_wp2
          go_roundw
          case rel =>
            refine ⟨k + 1, by omega, by go_num, ?_, ext_trans hb hb2, hR2⟩
            rw [HT.out, quantL_snoc, Nat.max_eq_right (by omega)]
          case measure => simp [intOf]; omega
        · have hmi : ¬ ((quantL (xs.take k) : Nat) : Int) < (quantE (nthE xs k) : Nat) := by omega
          go_wp2
          go_roundw
          case rel =>
            refine ⟨k + 1, by omega, by go_num, ?_, ext_trans hb hb2, hR2⟩
            rw [HT.out, quantL_snoc, Nat.max_eq_left (by omega)]
          case measure => simp [intOf]; omega
      · have hk' : k = xs.length := by omega
        subst hk'
        have hq1 := HQ.out xs.length (Nat.le_refl _)
        rw [List.take_length] at hq1 ⊢
        have co := hR.cell (j := 0) rfl
        go_wp2_with fail
        refine (quantifier_quiet _ op).mono ?_
        rintro _ _ ⟨rfl, nq, rfl⟩
        by_cases hq : quant op = true
        · rw [hq]
          go_wp2
          go_ret
          exact .mk (ext_drewN hb _) (int_eq (by simp [quantE, hq]))
        · have hq' : quant op = false := by simpa using hq
          rw [hq']
          go_wp2
          go_ret
          exact .mk (ext_drewN hb _) (int_eq (by simp [quantE, hq']))

def fewE (e : Ex) : Bool := decide (sizeE e < 140) && decide (quantE e ≤ 4)

set_option maxRecDepth 100000 in
theorem few_calls {S : Nat → Prop} {w : World} {e : Ex} {v : Value} (h : ExprV S w e v) :
    Calls Tryd.prog 8 #[v] w (Post w fun _ r => r = .bool (fewE e)) := by
  obtain ⟨a, cap, rfl, wo, wn, ha, hl, hm⟩ := h.parts
  go_enter Tryd.func8, Tryd.ntmps8
  go_wp2_with fail
  refine (count_calls h _ 140 (ext_alloc w _) (by omega) (by omega)).mono ?_
  rintro _ w1 ⟨_, rfl, hb1, rfl⟩
  have e1 := ext_trans (ext_alloc w _) hb1
  have hR := (row_new w [.int .i64 e.op, .int .i64 e.num, .slice a e.args.length cap] 24).ext hb1
  have c0 := hR.cell (j := 0) rfl
  have c1 := hR.cell (j := 1) rfl
  have c2 := hR.cell (j := 2) rfl
  by_cases hs : sizeE e < 140
  · have hd : countN e 140 < 140 := by unfold countN; omega
    have hd' : decide (((countN e 140 : Nat) : Int) < 140) = true := by simp; omega
    have hd'' : decide (countN e 140 < 140) = true := by simpa using hd
    go_wp2_with fail
    refine (quantors_calls h _ e1 (by omega)).mono ?_
    rintro _ w2 ⟨_, rfl, hb2, rfl⟩
    go_wp2
    go_ret
    refine .mk (ext_trans e1 hb2) (bool_eq ?_)
    simp [fewE, hs]
    omega
  · have hd : ¬ countN e 140 < 140 := by unfold countN; omega
    have hd' : decide (((countN e 140 : Nat) : Int) < 140) = false := by simp; omega
    have hd'' : decide (countN e 140 < 140) = false := by simpa using hd
    go_wp2
    go_ret
    exact .mk e1 (bool_eq (by simp [fewE, hs]))
end Go.Proofs.YthogcbffnbhalaaDoor

