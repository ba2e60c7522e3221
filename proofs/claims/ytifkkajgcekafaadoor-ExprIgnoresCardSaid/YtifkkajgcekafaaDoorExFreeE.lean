/- Free of both sides; SameInts. -/
import Derived.Test.YtifkkajgcekafaaDoorExFreeC
import Derived.Test.YtifkkajgcekafaaDoorExSort
import Derived.Test.YtifkkajgcekafaaDoorExCheck3
import Derived.Deep.DeepCutAuto
namespace Go.Proofs.YtifkkajgcekafaaDoor
set_option linter.unusedVariables false
open Go.RowKit Go.Sort Go.Lib
attribute [local go_sem ↓] Go.wp_at_zero Go.wp_at_succ

theorem below_of {B : Nat} {a b : World} (h : Below 0 a b) (hs : ∀ k, k < B → b.heap[k]? = a.heap[k]?) : Below B a b := ⟨h.os, h.tape, h.output, h.size, hs⟩
def freeR (e : Ex) (vars : Int) : List Int × Int := if checkE e vars ≠ 0 then ([], checkE e vars) else (freeE e vars, 0)
/-- A list and a number. -/
def FreeP (S : Nat → Prop) (r : List Int × Int) (W : World) (v : Value) : Prop := ∃ u, v = .tuple #[u, .int .i64 r.2] ∧ Ints S W u r.1
def MentC (vv : Int) (e : Ex) : Prop := ∀ (S : Nat → Prop) (w : World) (v : Value) (W : World), ExprV S w e v → Below w.heap.size w W → Calls Tryd.prog 72 #[v, .int .i64 vv] W (Post W fun _ r => r = .bool (mentE vv e))

set_option maxRecDepth 100000 in
set_option maxHeartbeats 4000000 in
theorem free_calls {S : Nat → Prop} {w : World} {e : Ex} {v : Value} (hT : Tab w) (h : ExprV S w e v) (hsz : sizeE e ≤ 1000) (vars : Int) :
    Calls Tryd.prog 32 #[v, .int .i64 vars] w (Post w fun W' r => FreeP (fun b => w.heap.size ≤ b) (freeR e vars) W' r) := by
  obtain ⟨a, cap, rfl, eo, en, ae, l1, l2⟩ := h.parts
  obtain ⟨w0, hw0⟩ : ∃ w0, w0 = (w.alloc (.cells #[.int .i64 e.op, .int .i64 e.num, .slice a e.args.length cap] 24)).alloc (.cells #[.int .i64 vars] 3) := ⟨_, rfl⟩
  have e0 : Below w.heap.size w w0 := by rw [hw0]; exact ext_alloc' (ext_alloc w _) _
  have rE : Row w0 w.heap.size 24 [.int .i64 e.op, .int .i64 e.num, .slice a e.args.length cap] := by rw [hw0]; exact (row_new w [.int .i64 e.op, .int .i64 e.num, .slice a e.args.length cap] 24).alloc _
  have rV : Row w0 (w.heap.size + 1) 3 [.int .i64 vars] := by
    have r2 := row_new (w.alloc (.cells #[.int .i64 e.op, .int .i64 e.num, .slice a e.args.length cap] 24)) [.int .i64 vars] 3
    rw [World.size_alloc] at r2
    rw [hw0]
    exact r2
  have hEb := h.bound
  obtain ⟨c, hc⟩ : ∃ c, c = checkE e vars := ⟨_, rfl⟩
  have HC := Lib.hid hc
  have CHK := Lib.hid (check_calls (hT.ext e0) (h.ext e0) (by omega) vars)
  rw [← hc] at CHK
  obtain ⟨R, hR⟩ : ∃ R, R = freeR e vars := ⟨_, rfl⟩
  rw [← hR]
  have HR := Lib.hid hR
  clear hc hR
  obtain ⟨x0, x1, x2⟩ := rE.three
  have y0 := rV.cell (j := 0) rfl
  go_enter Tryd.func32, Tryd.ntmps32
  go_upto_region 1 with fail
  rw [← hw0]
  clear hw0
  go_wp2_with fail
  refine CHK.out.mono ?_
  rintro _ w1 ⟨_, rfl, hb1, rfl⟩
  have e1 := ext_trans e0 hb1
  have rE1 := rE.ext hb1
  have rV1 := rV.ext hb1
  clear x0 x1 x2 y0
  obtain ⟨x0, x1, x2⟩ := rE1.three
  have lV := rV1.lt
  have lE := rE1.lt
  by_cases hc0 : c = 0
  · have dc : (c != 0) = false := by simpa using hc0
    have HC0 := Lib.hid hc0
    clear hc0
    have hwf := (Wf.of_check (e := e) (vars := vars) (HC.out.symm.trans HC0.out)).1
    go_wp2_with fail
    obtain ⟨w2, hw2⟩ : ∃ w2, w2 = w1.alloc (.cells #[.slice none 0 0] 25) := ⟨_, rfl⟩
    rw [← hw2]
    have hb2 : Below w1.heap.size w1 w2 := by rw [hw2]; exact ext_alloc w1 _
    have rB : Row w2 w1.heap.size 25 [.slice none 0 0] := by rw [hw2]; exact row_new w1 _ _
    clear hw2
    have e2 := ext_trans e1 hb2
    have lB := rB.lt
    have s1 := e1.size
    have CF := Lib.hid (copyF_all vars e hsz (fun b => S b ∧ b < w.heap.size) w2 (w.heap.size + 1) w1.heap.size (w1.heap.size + 1) _ (.slice none 0 0) [] (rV1.ext hb2) rB (World.ownsRow_nil _ _ _ _) (by omega) (by omega) (by omega) (by omega) (fun b hb => ⟨by have := hb.2; omega, by have := hb.2; omega⟩) (hEb.ext e2) (by simp; omega))
    rw [List.nil_append] at CF
    have HL := Lib.hid (show (varsE vars e).length ≤ 1000 by have := varsL_len vars [e]; simp [varsL, sizeL] at this; omega)
    have HFE := Lib.hid (free_eq hwf)
    obtain ⟨l, hl⟩ : ∃ l, l = varsE vars e := ⟨_, rfl⟩
    rw [← hl] at CF HL HFE
    clear hl
    refine CF.out.mono ?_
    rintro _ w3 ⟨o5, n5, a5, m5, c5, u3, rfl, hG, rB3, hO3⟩
    have z0 := rB3.cell (j := 0) rfl
    have lB3 := rB3.lt
    have b23 : Below w.heap.size w2 w3 := below_of hG.2.2 (fun k hk => hG.1.block k ⟨by omega, by simp [Value.ownBlock]⟩ (by omega))
    have e3 : Below w.heap.size w w3 := e2.trans b23
    by_cases hl0 : l.length = 0
    · have hln : l = [] := List.eq_nil_of_length_eq_zero hl0
      subst hln
      have HRV := Lib.hid (show R = ([], 0) from HR.out.trans (by unfold freeR; rw [← HC.out, if_neg (by rw [HC0.out]; simp), ← HFE.out, show sortL [] = [] by simp [sortL]]; rfl))
      have hu : ∃ p cp, u3 = .slice p 0 cp ∧ Ints (fun b => w.heap.size ≤ b) w3 (.slice p 0 cp) [] := by
        rcases hO3.2 with ⟨rfl, _⟩ | ⟨g, cp, cur, rfl, hbg, hgg, h1, h2, _⟩
        · exact ⟨none, 0, rfl, Ints.nil _ _⟩
        · exact ⟨_, cp, rfl, _, cp, rfl, .inr ⟨g, 0, rfl, (Array.getElem?_eq_some_iff.1 hgg).1, by omega⟩, h1, h2, fun j hj => by simp at hj, by simp⟩
      obtain ⟨p, cp, rfl, hI⟩ := hu
      clear hO3 hl0
      go_wp2_with fail
      refine (Tryd.slices_Sort_int_none p cp w3).mono ?_
      rintro _ w4 ⟨rfl, rfl⟩
      go_wp2_with fail
      refine (Tryd.slices_Compact_int_empty p cp w4).mono ?_
      rintro _ w5 ⟨rfl, rfl⟩
      go_wp2
      go_ret2
      rw [HRV.out]
      exact .mk e3 ⟨_, rfl, hI⟩
    · obtain ⟨g, cp, hu⟩ := owns_pos hO3 (by omega)
      subst hu
      have hgb := hO3.lt g rfl
      have hcp : l.length ≤ cp ∧ cp ≤ maxLen := by
        rcases hO3.2 with ⟨h', _⟩ | ⟨g', cap', cur, h', _, _, h1, h2, _⟩
        · simp at h'
        · simp only [Value.slice.injEq] at h'; obtain ⟨_, _, rfl⟩ := h'; exact ⟨h1, h2⟩
      have hA3 := RowAt.of_own hO3
      have hwfl : ∀ x ∈ freeE e vars, WF x := by
        intro x hx
        have h3 := (mem_freeE e).1 hx
        have := HC0.out ▸ HC.out
        have hv := (Wf.of_check this.symm).2.1
        have hv2 := (Wf.of_check this.symm).2.2.1
        unfold WF; omega
      obtain ⟨n, hn⟩ : ∃ n, n = l.length := ⟨_, rfl⟩
      rw [← hn] at z0 hcp rB3
      have HN := Lib.hid hn
      have ST := Lib.hid (sort_calls (n := n) (cap := cp) (HN.out) hA3 (by have := HL.out; omega))
      clear hO3 hn hl0
      go_wp2_with fail
      refine ST.out.mono ?_
      rintro _ w4 ⟨rfl, hA4, ha4, hb4⟩
      have rB4 := rB3.agree ha4 (by omega)
      clear z0
      have z0 := rB4.cell (j := 0) rfl
      have s4 := ha4.size
      have e4 : Below w.heap.size w w4 := e3.trans (below_of hb4 fun k hk => ha4.block k (by omega) (by omega))
      have CT := Lib.hid (compact_calls (n := n) (cap := cp) (l := sortL l) (by rw [sortL_length]; exact HN.out) hA4 (by rw [sortL_length]; have := HL.out; omega) hcp.1)
      rw [HFE.out] at CT
      have HCL := Lib.hid (compact_length_le (sortL l))
      rw [HFE.out, sortL_length] at HCL
      go_wp2_with fail
      refine CT.out.mono ?_
      rintro _ w5 ⟨rfl, hA5, ha5, hb5⟩
      have e5 : Below w.heap.size w w5 := e4.trans (below_of hb5 fun k hk => ha5.block k (by omega) (by omega))
      obtain ⟨m, hm⟩ : ∃ m, m = (freeE e vars).length := ⟨_, rfl⟩
      have HM := Lib.hid hm
      have HRV := Lib.hid (show R = (freeE e vars, 0) from HR.out.trans (by unfold freeR; rw [← HC.out, if_neg (by rw [HC0.out]; simp)]))
      have hI : Ints (fun b => w.heap.size ≤ b) w5 (.slice (some ⟨g, 0, none⟩) (freeE e vars).length cp) (freeE e vars) := by
        refine ⟨_, cp, rfl, .inr ⟨g, 0, rfl, hA5.1, by omega⟩, by have := HCL.out; have := HN.out; omega, hcp.2, fun j hj => ?_, hwfl⟩
        rw [adr_add, Nat.zero_add]
        have := (hA5.2 j (by rw [List.length_append]; omega)).1
        rw [this]
        simp [nth, List.getD_eq_getElem?_getD, List.getElem?_append_left hj]
      rw [← hm] at hI
      rw [← hm]
      clear hm
      go_wp2
      go_ret2
      rw [HRV.out]
      exact .mk e5 ⟨_, rfl, hI⟩
  · have dc : (c != 0) = true := by simpa using hc0
    have HC0 := Lib.hid hc0
    clear hc0
    have HRV := Lib.hid (show R = ([], c) from HR.out.trans (by unfold freeR; rw [← HC.out, if_pos HC0.out]))
    go_wp2
    go_ret2
    rw [HRV.out]
    exact .mk e1 ⟨_, rfl, Ints.nil _ _⟩

set_option maxRecDepth 100000 in
set_option maxHeartbeats 4000000 in
theorem mentions_node (op num : Int) (xs : List Ex) (vv : Int) (ih : ∀ x ∈ xs, MentC vv x) : MentC vv (.node op num xs) := by
  intro S w v W hv hW
  obtain ⟨a, cap, rfl, hl, hm, had, wo, wn, hel⟩ := hv.els
  unfold maxLen at hm
  have hel0 := Lib.hid hel
  clear hel
  have HM := Lib.hid (show mentE vv (.node op num xs) = ((decide (op = 1) && decide (num = vv)) || mentL vv xs) by rw [mentE])
  obtain ⟨R, hR⟩ : ∃ R, R = mentE vv (.node op num xs) := ⟨_, rfl⟩
  rw [← hR] at HM
  rw [← hR]
  clear hR
  obtain ⟨w0, hw0⟩ : ∃ w0, w0 = W.alloc (.cells #[.int .i64 op, .int .i64 num, .slice a xs.length cap] 24) := ⟨_, rfl⟩
  have e0 : Below W.heap.size W w0 := by rw [hw0]; exact ext_alloc W _
  have rE : Row w0 W.heap.size 24 [.int .i64 op, .int .i64 num, .slice a xs.length cap] := by rw [hw0]; exact row_new W _ _
  obtain ⟨x0, x1, x2⟩ := rE.three
  have key : ∀ Q : Prop, ((op == 1) = true → (num == vv) = true → Q) → ((op == 1) = true → (num == vv) = false → Q) → ((op == 1) = false → Q) → Q := by
    intro Q h1 h2 h3
    cases ho : (op == 1) with
    | false => exact h3 ho
    | true => cases hn : (num == vv) with
      | true => exact h1 ho hn
      | false => exact h2 ho hn
  refine key _ ?_ ?_ ?_
  · intro d1 d2
    have HR := Lib.hid (show R = true from HM.out.trans (by rw [decide_eq_true (beq_iff_eq.1 d1), decide_eq_true (beq_iff_eq.1 d2)]; rfl))
    go_enter Tryd.func72, Tryd.ntmps72
    go_upto_region 1 with fail
    rw [← hw0]
    clear hw0
    go_wp2
    go_ret
    exact .mk e0 (bool_eq HR.out.symm)
  all_goals
    intros
    have HR := Lib.hid (show R = mentL vv xs from HM.out.trans (by
      first
        | (rw [decide_eq_false (beq_eq_false_iff_ne.1 ‹(num == vv) = false›), Bool.and_false, Bool.false_or])
        | (rw [decide_eq_false (beq_eq_false_iff_ne.1 ‹(op == 1) = false›), Bool.false_and, Bool.false_or])))
    go_enter Tryd.func72, Tryd.ntmps72
    go_upto_region 1 with fail
    rw [← hw0]
    clear hw0
    go_wp2
    go_loopw [5] (fun i wr => ∃ k : Nat, k ≤ xs.length ∧ i = .int .i64 k ∧ Below w0.heap.size w0 wr ∧ mentL vv (xs.take k) = false) (fun i _ => xs.length - (intOf i).toNat)
    case atStart => exact ⟨0, Nat.zero_le _, rfl, .refl _ _, by simp [mentL]⟩
    case round =>
      obtain ⟨k, hk, rfl, hb, hmf⟩ := hrel
      have HMF := Lib.hid hmf
      clear hmf
      clear x0 x1 x2
      obtain ⟨x0, x1, x2⟩ := (rE.ext hb).three
      by_cases hlt : k < xs.length
      · obtain ⟨b, off, a', c', hel⟩ := hel0.out k hlt
        have hel1 := hel.ext (ext_trans hW (ext_trans e0 hb))
        have q := hel1.idx
        have c0 := hel1.c0
        have c1 := hel1.c1
        have c2 := hel1.c2
        have HI := Lib.hid (ih _ (nthE_mem hlt) S w _ wr hel.ex (ext_trans hW (ext_trans e0 hb)))
        cases hme : mentE vv (nthE xs k) with
        | true =>
          rw [hme] at HI
          have HT := Lib.hid (show R = true from HR.out.trans (by rw [mentL_any, List.any_eq_true]; exact ⟨_, nthE_mem hlt, hme⟩))
          clear hme
          go_wp2_with fail
          refine HI.out.mono ?_
          rintro _ w2 ⟨_, rfl, hb2, rfl⟩
          go_wp2
          go_ret
          exact .mk (ext_trans e0 (ext_trans hb hb2)) (bool_eq HT.out.symm)
        | false =>
          rw [hme] at HI
          have HT := Lib.hid (show mentL vv (xs.take (k + 1)) = false by rw [take_nthE hlt, mentL_any, List.any_append, ← mentL_any, HMF.out]; simp [hme])
          clear hme
          go_wp2_with fail
          refine HI.out.mono ?_
          rintro _ w2 ⟨_, rfl, hb2, rfl⟩
          go_wp2
          go_roundw
          case rel => exact ⟨k + 1, by omega, by go_num, ext_trans hb hb2, HT.out⟩
          case measure => simp [intOf]; omega
      · obtain rfl : k = xs.length := by omega
        rw [List.take_length] at HMF
        go_wp2
        go_ret
        exact .mk (ext_trans e0 hb) (bool_eq (HR.out.trans HMF.out).symm)
theorem mentions_all (vv : Int) (e : Ex) : MentC vv e := by
  induction e using Ex.ind with
  | h op num xs ih => exact mentions_node op num xs vv ih

set_option maxRecDepth 100000 in
set_option maxHeartbeats 4000000 in
theorem sameInts_calls {S S2 : Nat → Prop} {w : World} {u u2 : Value} {l l2 : List Int} (h : Ints S w u l) (h2 : Ints S2 w u2 l2) : Calls Tryd.prog 37 #[u, u2] w (Post w fun _ r => r = .bool (decide (l = l2))) := by
  obtain ⟨a, cap, rfl, ad, l1, lm, hc, hwf⟩ := h
  obtain ⟨a2, cap2, rfl, ad2, l12, lm2, hc2, hwf2⟩ := h2
  unfold maxLen at lm lm2
  obtain ⟨i, hi, hz1, hz2, hz3⟩ := info_parts info_int
  have q := idx_one Tryd.underlying25 hi hz2 ad
  have q2 := idx_one Tryd.underlying25 hi hz2 ad2
  have HQ := Lib.hid q
  have HQ2 := Lib.hid q2
  have HC := Lib.hid hc
  have HC2 := Lib.hid hc2
  obtain ⟨R, hR⟩ : ∃ R, R = decide (l = l2) := ⟨_, rfl⟩
  rw [← hR]
  have HR := Lib.hid hR
  clear q q2 hc hc2 hR hwf hwf2
  by_cases hn : l.length = l2.length
  · have d : ((l.length : Int) != (l2.length : Int)) = false := by simp [hn]
    obtain ⟨n, hn1⟩ : ∃ n, n = l.length := ⟨_, rfl⟩
    have hn2 : n = l2.length := hn1.trans hn
    rw [← hn1, ← hn2] at d
    rw [← hn1] at HQ HC ad l1 ⊢
    rw [← hn2] at HQ2 HC2 ad2 l12 ⊢
    have HN1 := Lib.hid hn1
    have HN2 := Lib.hid hn2
    clear hn hn1 hn2
    go_enter Tryd.func37, Tryd.ntmps37
    go_wp2
    go_loopw [5] (fun i wr => ∃ k : Nat, k ≤ n ∧ i = .int .i64 k ∧ Below w.heap.size w wr ∧ l.take k = l2.take k) (fun i _ => n - (intOf i).toNat)
    case atStart => exact ⟨0, Nat.zero_le _, rfl, .refl _ _, by simp⟩
    case round =>
      obtain ⟨k, hk, rfl, hb, hmf⟩ := hrel
      have HMF := Lib.hid hmf
      clear hmf
      by_cases hlt : k < n
      · have q := HQ.out k hlt
        have q2 := HQ2.out k hlt
        have c := cells_at ad hb HC.out k hlt
        have c2 := cells_at ad2 hb HC2.out k hlt
        have hlt1 : k < l.length := by have := HN1.out; omega
        have hlt2 : k < l2.length := by have := HN2.out; omega
        have i1 : (0 : Int) ≤ (k : Int) := by omega
        have i2 : (k : Int) < (n : Int) := by omega
        by_cases he : nth l k = nth l2 k
        · have d2 : (nth l k != nth l2 k) = false := by simpa using he
          have HT := Lib.hid (show l.take (k + 1) = l2.take (k + 1) by rw [take_nth hlt1, take_nth hlt2, HMF.out, he])
          clear he
          go_wp2_with fail
          go_quiet (fail)
          go_wp2
          go_roundw
          case rel => exact ⟨k + 1, by omega, by go_num, by first | exact hb | exact ext_drewN hb _ | exact hb.drew, HT.out⟩
          case measure => simp [intOf]; omega
        · have d2 : (nth l k != nth l2 k) = true := by simpa using he
          have HT := Lib.hid (show R = false from HR.out.trans (decide_eq_false fun h => he (by rw [h])))
          clear he
          go_wp2_with fail
          go_quiet (fail)
          go_wp2
          go_ret
          exact .mk (by first | exact hb | exact ext_drewN hb _ | exact hb.drew) (bool_eq HT.out.symm)
      · have hkn : k = n := by omega
        have HT := Lib.hid (show R = true from HR.out.trans (decide_eq_true (by
          have h := HMF.out
          rw [List.take_of_length_le (by have := HN1.out; omega), List.take_of_length_le (by have := HN2.out; omega)] at h
          exact h)))
        clear hkn
        go_wp2
        go_ret
        exact .mk hb (bool_eq HT.out.symm)
  · have d : ((l.length : Int) != (l2.length : Int)) = true := by simp; omega
    have HT := Lib.hid (show R = false from HR.out.trans (decide_eq_false fun h => hn (by rw [h])))
    obtain ⟨n, hn1⟩ : ∃ n, n = l.length := ⟨_, rfl⟩
    obtain ⟨m, hm1⟩ : ∃ n, n = l2.length := ⟨_, rfl⟩
    rw [← hn1, ← hm1] at d ⊢
    clear hn hn1 hm1 HR
    go_enter Tryd.func37, Tryd.ntmps37
    go_wp2
    go_ret
    exact .mk (.refl _ _) (bool_eq HT.out.symm)
set_option maxRecDepth 100000 in
set_option maxHeartbeats 4000000 in
theorem refFree_calls {S : Nat → Prop} {w : World} {e : Ex} {v : Value} (h : ExprV S w e v) (hsz : sizeE e ≤ 1000) (vars : Int) :
    Calls Tryd.prog 36 #[v, .int .i64 vars] w (Post w fun W' r => FreeP (fun b => w.heap.size ≤ b) (freeR e vars) W' r) := by
  obtain ⟨a, cap, rfl, eo, en, ae, l1, l2⟩ := h.parts
  obtain ⟨w0, hw0⟩ : ∃ w0, w0 = w.alloc (.cells #[.int .i64 e.op, .int .i64 e.num, .slice a e.args.length cap] 24) := ⟨_, rfl⟩
  have e0 : Below w.heap.size w w0 := by rw [hw0]; exact ext_alloc w _
  have rE : Row w0 w.heap.size 24 [.int .i64 e.op, .int .i64 e.num, .slice a e.args.length cap] := by rw [hw0]; exact row_new w _ _
  obtain ⟨c, hc⟩ : ∃ c, c = checkE e vars := ⟨_, rfl⟩
  have HC := Lib.hid hc
  have CHK := Lib.hid (refCheck_calls (h.ext e0) (by omega) vars)
  rw [← hc] at CHK
  obtain ⟨R, hR⟩ : ∃ R, R = freeR e vars := ⟨_, rfl⟩
  rw [← hR]
  have HR := Lib.hid hR
  clear hc hR
  obtain ⟨x0, x1, x2⟩ := rE.three
  go_enter Tryd.func36, Tryd.ntmps36
  go_upto_region 1 with fail
  rw [← hw0]
  clear hw0
  go_wp2_with fail
  refine CHK.out.mono ?_
  rintro _ w1 ⟨_, rfl, hb1, rfl⟩
  have e1 := ext_trans e0 hb1
  have rE1 := rE.ext hb1
  clear x0 x1 x2
  by_cases hc0 : c = 0
  · have dc : (c != 0) = false := by simpa using hc0
    have HC0 := Lib.hid hc0
    clear hc0
    obtain ⟨hwf, hv0, hv24, _⟩ := Wf.of_check (e := e) (vars := vars) (HC.out.symm.trans HC0.out)
    have HRV := Lib.hid (show R = (freeE e vars, 0) from HR.out.trans (by unfold freeR; rw [← HC.out, if_neg (by rw [HC0.out]; simp)]))
    go_wp2
    go_loopw [7, 8] (fun u i wr => ∃ k : Nat, (k : Int) ≤ vars ∧ i = .int .i64 k ∧ Below w1.heap.size w1 wr ∧ wr.ownsRow w1.heap.size 3 1 u (freeE e k).length ((freeE e k).map (Value.int .i64))) (fun _ i _ => vars.toNat - (intOf i).toNat)
    case atStart => exact ⟨0, by omega, rfl, .refl _ _, by simpa [freeE] using World.ownsRow_nil _ _ _ _⟩
    case round =>
      obtain ⟨k, hk, rfl, hb, hO⟩ := hrel
      have hlen : (freeE e k).length ≤ k := by unfold freeE; rw [List.length_map]; exact Nat.le_trans (List.length_filter_le _ _) (by simp)
      obtain ⟨x0, x1, x2⟩ := (rE1.ext hb).three
      by_cases hlt : (k : Int) < vars
      · have hwk := ext_trans e1 hb
        have HI := Lib.hid (mentions_all (k : Int) e S w _ wr h hwk)
        have HSU := Lib.hid (show freeE e ((k + 1 : Nat) : Int) = freeE e k ++ if mentE (k : Int) e = true then [(k : Int)] else [] by
          unfold freeE
          rw [show (((k + 1 : Nat) : Int)).toNat = k + 1 by omega, show ((k : Int)).toNat = k by omega, List.range_succ, List.filter_append, List.map_append]
          by_cases hm : mentE (k : Int) e = true
          · simp [hm]
          · simp [hm])
        cases hme : mentE (k : Int) e with
        | true =>
          rw [hme] at HI HSU
          clear hme
          go_wp2_with fail
          refine HI.out.mono ?_
          rintro _ w2 ⟨_, rfl, hb2, rfl⟩
          have hbb := ext_trans hb hb2
          have hO2 := owns_ext hO hb2
          have hs2 := hbb.size
          go_wp2_with (at_builtin; refine wpList_push rfl (.tmp 23) (.tmp 25) 25 rfl 3 _ 8 Tryd.underlying25 info_int rfl w1.heap.size _ (freeE e k).length _ rfl hO2 (.int .i64 (k : Int)) rfl rfl (by omega) (by omega) (by omega) ?_; intro g3 c3 w3 hown3 hb3 hag3 hg3)
          have hsl : (freeE e k).length + 1 = (freeE e ((k + 1 : Nat) : Int)).length := by rw [HSU.out]; simp
          have hsm : (freeE e k).map (Value.int .i64) ++ [.int .i64 (k : Int)] = (freeE e ((k + 1 : Nat) : Int)).map (Value.int .i64) := by rw [HSU.out]; simp
          rw [hsm, hsl] at hown3
          have HO3 := Lib.hid hown3
          have HSL := Lib.hid hsl
          clear hsl hsm hown3
          go_roundw
          case rel => exact ⟨k + 1, by omega, by go_num, hbb.trans hb3, by rw [HSL.out]; exact HO3.out⟩
          case measure => simp [intOf]; omega
        | false =>
          rw [hme] at HI HSU
          clear hme
          go_wp2_with fail
          refine HI.out.mono ?_
          rintro _ w2 ⟨_, rfl, hb2, rfl⟩
          have hbb := ext_trans hb hb2
          have hO2 := owns_ext hO hb2
          go_wp2
          go_roundw
          case rel => exact ⟨k + 1, by omega, by go_num, hbb, by rw [HSU.out]; simpa using hO2⟩
          case measure => simp [intOf]; omega
      · have hkv : (k : Int) = vars := by omega
        have HKV := Lib.hid hkv
        clear hkv
        have hwfl : ∀ x ∈ freeE e k, WF x := by
          intro x hx
          have h3 := (mem_freeE e).1 hx
          unfold WF; omega
        have hI := Ints.of_own hO hwfl
        have hs := e1.size
        have hI2 := hI.mono (S' := fun b => w.heap.size ≤ b) fun b hb => by omega
        clear hO hI
        go_wp2
        go_ret2
        rw [HRV.out, ← HKV.out]
        exact .mk (ext_trans e1 hb) ⟨_, rfl, hI2⟩
  · have dc : (c != 0) = true := by simpa using hc0
    have HC0 := Lib.hid hc0
    clear hc0
    have HRV := Lib.hid (show R = ([], c) from HR.out.trans (by unfold freeR; rw [← HC.out, if_pos HC0.out]))
    go_wp2
    go_ret2
    rw [HRV.out]
    exact .mk e1 ⟨_, rfl, Ints.nil _ _⟩

end Go.Proofs.YtifkkajgcekafaaDoor
