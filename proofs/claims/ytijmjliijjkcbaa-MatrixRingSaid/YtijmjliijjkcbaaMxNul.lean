/- The reference's Echelon and Rank. The reference's test of leading columns. The reference's row of the kernel is the program's. Plain data. The reference's kernel: its walk. -/
import Derived.Test.YtijmjliijjkcbaaMxReds
import Derived.Test.YtijmjliijjkcbaaMxKern
import Derived.Test.YtijmjliijjkcbaaMxTrA
import Derived.Test.YtijmjliijjkcbaaMxPlus
/- The reference's Echelon and Rank. -/
namespace Go.Proofs.Ytijmjliijjkcbaa
set_option linter.unusedVariables false
open Go.RowKit
attribute [local go_sem ↓] Go.wp_at_zero Go.wp_at_succ

theorem run_field_rows (x : Value) (a : Option Addr) (n c : Nat) (W : World) : (Instr.field 24 (.agg #[x, .slice a n c]) 1).run Try.prog W = .ok (.slice a n c) W := by
  obtain ⟨i, hi, hz0, hz1, hz2⟩ := info_parts info_ints
  unfold Instr.field
  simp [go_sem, asAgg]
/-- What a call returns: a matrix, and an error's number. -/
def RetMT (x : Mx × Int) (w' : World) (r : Value) : Prop := ∃ mv, r = .tuple #[mv, .int .i64 x.2] ∧ MatV TT w' mv x.1
theorem RetMT.mk {x : Mx × Int} {w' : World} {rv : Value} {c e : Int} {ll : List (List Int)} (hx : x = (⟨c, ll⟩, e)) (h : Lists TT w' rv ll) : RetMT x w' (.tuple #[.agg #[.int .i64 c, rv], .int .i64 e]) := by
  subst hx; exact ⟨_, rfl, rv, rfl, h⟩
theorem RetMT.none {x : Mx × Int} {w' : World} {e : Int} (hx : x = (⟨0, []⟩, e)) : RetMT x w' (.tuple #[.agg #[.int .i64 0, .slice none 0 0], .int .i64 e]) := .mk hx (.nil _ _)

set_option maxRecDepth 100000 in
set_option maxHeartbeats 2000000 in
theorem refEchelon_calls {S : Nat → Prop} {w : World} {va : Value} {m : Mx} (ha : MatV S w va m) :
    Calls Try.prog 17 #[va] w (Post w (RetMT (echS m))) := by
  obtain ⟨cols, ll⟩ := m
  obtain ⟨ra, rfl, la⟩ := ha
  obtain ⟨aa, acap, rfl, aad, al1, alm⟩ := la.form
  dsimp only at la al1 aad ⊢
  have ex : Below w.heap.size w ((w.alloc (.cells #[.int .i64 cols, .slice aa ll.length acap] 24)).alloc (.cells #[.int .i64 0, .slice none 0 0] 24)) := ext_alloc' (ext_alloc w _) _
  have r0 := (row_new w [.int .i64 cols, .slice aa ll.length acap] 24).alloc (.cells #[.int .i64 0, .slice none 0 0] 24)
  have r1 := row_new (w.alloc (.cells #[.int .i64 cols, .slice aa ll.length acap] 24)) [.int .i64 0, .slice none 0 0] 24
  simp only [World.size_alloc] at r1
  have KC := Lib.hid (refCheck_calls (v := .agg #[.int .i64 cols, .slice aa ll.length acap]) (m := ⟨cols, ll⟩) ⟨_, rfl, la.ext ex⟩)
  go_enter Try.func17, Try.ntmps17
  go_wp2_with fail
  refine KC.out.mono ?_
  rintro _ w1 ⟨_, rfl, hb1, rfl⟩
  have hx1 := ext_trans ex hb1
  have R0 := r0.ext hb1
  have R1 := r1.ext hb1
  clear KC r0 r1 ex
  obtain ⟨q10, q11⟩ := R1.two
  have f10 := R1.free 0
  have f11 := R1.free 1
  have hz1w := R1.lt
  by_cases h1 : ¬ checkM ⟨cols, ll⟩ = 0
  · have e1 : (checkM ⟨cols, ll⟩ != 0) = true := by simp [h1]
    have R := Lib.hid (echS_err h1)
    clear h1
    go_wp2
    refine bodyPost_ret (v := .tuple #[.agg #[.int .i64 0, .slice none 0 0], .int .i64 (checkM ⟨cols, ll⟩)]) (by simp [results, Try.results17, go_sem, q10, q11]) rfl ?_
    exact .mk (set2_below _ _ hx1 (by omega)) (.none R.out)
  have h1 := Classical.not_not.1 h1
  have e1 : (checkM ⟨cols, ll⟩ != 0) = false := by simp [h1]
  have R := Lib.hid (echS_ok h1)
  obtain ⟨q0, q1⟩ := R0.two
  have KT := Lib.hid (reduced_calls (va := .agg #[.int .i64 cols, .slice aa ll.length acap]) (m := ⟨cols, ll⟩) (w := w1) ⟨_, rfl, la.block.ext hx1⟩ (checkM_zero.1 h1))
  clear h1
  go_wp2_with fail
  refine KT.out.mono ?_
  rintro _ w2 ⟨v2, rfl, hb2, rv, rfl, hl2⟩
  obtain ⟨a2, c2, rfl, _⟩ := hl2.form
  have R1 := R1.ext hb2
  obtain ⟨q10, q11⟩ := R1.two
  have f10 := R1.free 0
  have f11 := R1.free 1
  have hbs := hx1.size
  have HL2 := Lib.hid hl2
  dsimp only
  go_wp2
  refine bodyPost_ret (v := .tuple #[.agg #[.int .i64 cols, .slice a2 (rowsE ⟨cols, ll⟩).length c2], .int .i64 0]) (by simp [results, Try.results17, go_sem, q10, q11]) rfl ?_
  exact .mk (set2_below _ _ (ext_trans hx1 hb2) (by omega)) (.mk R.out ((HL2.out.agree ((Agree.of_grown (grownBy_setCell w2 (w.heap.size + 1) 0 _) fun b hb e => by cases e; omega).trans (.of_grown (grownBy_setCell _ (w.heap.size + 1) 1 _) fun b hb e => by cases e; omega))).mono fun _ _ => trivial))

set_option maxRecDepth 100000 in
set_option maxHeartbeats 2000000 in
theorem refRank_calls {S : Nat → Prop} {w : World} {va : Value} {m : Mx} (ha : MatV S w va m) :
    Calls Try.prog 19 #[va] w (Post w fun _ r => r = .tuple #[.int .i64 (echS m).1.rows.length, .int .i64 (echS m).2]) := by
  obtain ⟨cols, ll⟩ := m
  obtain ⟨ra, rfl, la⟩ := ha
  obtain ⟨aa, acap, rfl, aad, al1, alm⟩ := la.form
  dsimp only at la al1 aad ⊢
  have ex : Below w.heap.size w (w.alloc (.cells #[.int .i64 cols, .slice aa ll.length acap] 24)) := ext_alloc w _
  have r0 := row_new w [.int .i64 cols, .slice aa ll.length acap] 24
  have KC := Lib.hid (refCheck_calls (v := .agg #[.int .i64 cols, .slice aa ll.length acap]) (m := ⟨cols, ll⟩) ⟨_, rfl, la.ext ex⟩)
  go_enter Try.func19, Try.ntmps19
  go_wp2_with fail
  refine KC.out.mono ?_
  rintro _ w1 ⟨_, rfl, hb1, rfl⟩
  have hx1 := ext_trans ex hb1
  have R0 := r0.ext hb1
  clear KC r0 ex
  by_cases h1 : ¬ checkM ⟨cols, ll⟩ = 0
  · have e1 : (checkM ⟨cols, ll⟩ != 0) = true := by simp [h1]
    have R := Lib.hid (echS_err h1)
    clear h1
    go_wp2
    go_ret2
    exact .mk hx1 (by rw [R.out]; rfl)
  have h1 := Classical.not_not.1 h1
  have e1 : (checkM ⟨cols, ll⟩ != 0) = false := by simp [h1]
  have R := Lib.hid (echS_ok h1)
  obtain ⟨q0, q1⟩ := R0.two
  have KT := Lib.hid (reduced_calls (va := .agg #[.int .i64 cols, .slice aa ll.length acap]) (m := ⟨cols, ll⟩) (w := w1) ⟨_, rfl, la.ext hx1⟩ (checkM_zero.1 h1))
  clear h1
  go_wp2_with fail
  refine KT.out.mono ?_
  rintro _ w2 ⟨v2, rfl, hb2, rv, rfl, hl2⟩
  obtain ⟨a2, c2, rfl, _⟩ := hl2.form
  have hbs := ext_trans hx1 hb2
  clear hl2
  dsimp only
  have hfr := run_field_rows (.int .i64 cols) a2 (rowsE ⟨cols, ll⟩).length c2
  go_wp2
  go_ret2
  exact .mk hbs (by rw [R.out]; rfl)
end Go.Proofs.Ytijmjliijjkcbaa
/- The reference's test of leading columns. -/
namespace Go.Proofs.Ytijmjliijjkcbaa
set_option linter.unusedVariables false
open Go.RowKit
attribute [local go_sem ↓] Go.wp_at_zero Go.wp_at_succ

set_option maxRecDepth 100000 in
theorem leads_calls {S : Nat → Prop} {w : World} {va : Value} {m : Mx} (ha : MatV S w va m) (hne : ∀ r ∈ m.rows, r ≠ []) (c : Int) :
    Calls Try.prog 72 #[va, .int .i64 c] w (Post w fun _ r => r = .bool (leadsB m.rows c)) := by
  obtain ⟨cols, ll⟩ := m
  obtain ⟨ra, rfl, la⟩ := ha
  obtain ⟨aa, acap, rfl, aad, al1, alm⟩ := la.form
  dsimp only at la al1 aad hne ⊢
  unfold maxLen at alm
  have ex : Below w.heap.size w (w.alloc (.cells #[.int .i64 cols, .slice aa ll.length acap] 24)) := ext_alloc w _
  have R0 := row_new w [.int .i64 cols, .slice aa ll.length acap] 24
  obtain ⟨i0, hi, hz0, hz1, hz2⟩ := info_parts info_ints
  obtain ⟨i1, hj, hy0, hy1, hy2⟩ := info_parts info_int
  have HQA := Lib.hid (idx_one Try.underlying22 hi hz1 aad)
  have HQB := Lib.hid (fun (W : World) (a : Option Addr) (n cap : Nat) (h : Ad (fun _ => True) W a n cap) => idx_one Try.underlying38 hj hy1 h)
  have HNE := Lib.hid hne
  clear hi hz0 hz1 hz2 hj hy0 hy1 hy2 hne
  go_enter Try.func72, Try.ntmps72
  go_wp2
  go_loopw [5] (fun i wr => ∃ k : Nat, k ≤ ll.length ∧ i = .int .i64 k ∧ Below w.heap.size w wr ∧ Row wr w.heap.size 24 [.int .i64 cols, .slice aa ll.length acap] ∧ Hid (leadsB (ll.take k) c = false)) (fun i _ => ll.length - (intOf i).toNat)
  case atStart => exact ⟨0, Nat.zero_le _, rfl, ex, R0, Lib.hid rfl⟩
  case round =>
    clear R0
    obtain ⟨k, hk, rfl, hb, R0, hF⟩ := hrel
    obtain ⟨q0, q1⟩ := R0.two
    by_cases hlt : k < ll.length
    · have q := HQA.out k hlt
      obtain ⟨u, cu, iu⟩ := la.at hb hlt
      have hnil := HNE.out _ (nthL_mem hlt)
      have hlen : 0 < (nthL ll k).length := List.length_pos_iff.2 hnil
      obtain ⟨a1, c1, rfl, ad1, l1, lm1, hc1, _⟩ := iu
      have qb : ∀ W : World, (Instr.indexAt 38 (.slice a1 (nthL ll k).length c1) (.int .i64 0)).run Try.prog W = .ok (.pointer (some (adr a1 0))) W := HQB.out wr a1 (nthL ll k).length c1 (by rcases ad1 with h | ⟨b, off, e, hb', _⟩; exact .inl h; exact .inr ⟨b, off, e, hb', trivial⟩) 0 hlen
      have cb := hc1 0 hlen
      have hld : nth (nthL ll k) 0 = lead (nthL ll k) := by
        cases h : nthL ll k with
        | nil => exact absurd h hnil
        | cons x l => rfl
      rw [hld] at cb
      obtain ⟨y, hy⟩ : ∃ y, y = lead (nthL ll k) := ⟨_, rfl⟩
      rw [← hy] at cb
      have HT := Lib.hid (leadsB_take hlt c)
      have HY := Lib.hid hy
      have hzl : (0 : Int) < (nthL ll k).length := by omega
      clear hld hnil hy ad1 hc1
      by_cases he : y = c
      · have e1 : (y == c) = true := by simp [he]
        have HR : Hid (leadsB ll c = true) := Lib.hid (by
          unfold leadsB
          rw [List.any_eq_true]
          exact ⟨_, nthL_mem hlt, by rw [← HY.out, he]; simp⟩)
        clear he
        go_wp2
        go_ret
        exact .mk hb (bool_eq HR.out.symm)
      · have e1 : (y == c) = false := by simp [he]
        have HR : Hid (leadsB (ll.take (k + 1)) c = false) := Lib.hid (by
          rw [HT.out, hF.out, ← HY.out]
          simp only [Bool.false_or, decide_eq_false_iff_not]
          exact fun h => he h.symm)
        clear he
        go_wp2
        go_roundw
        case rel => exact ⟨k + 1, by omega, by go_num, hb, R0, HR⟩
        case measure => simp [intOf]; omega
    · have HR : Hid (leadsB ll c = false) := Lib.hid (by have := hF.out; rwa [List.take_of_length_le (by omega)] at this)
      go_wp2
      go_ret
      exact .mk hb (bool_eq HR.out.symm)
end Go.Proofs.Ytijmjliijjkcbaa
/- The reference's row of the kernel is the program's. Plain data. -/
namespace Go.Proofs.Ytijmjliijjkcbaa
set_option linter.unusedVariables false

def nullTo (E : List (List Int)) (c : Int) : Nat → List Int
  | 0 => [c]
  | k + 1 => if memB (nthL E k) c = true then xorL (nullTo E c k) [lead (nthL E k)] else nullTo E c k

theorem kerAcc_takeN {E : List (List Int)} {k : Nat} (hk : k < E.length) (c : Int) : kerAcc (E.take (k + 1)) c = kerAcc (E.take k) c ++ (if memB (nthL E k) c = true then [lead (nthL E k)] else []) := by
  unfold kerAcc
  rw [take_nthL hk, List.filter_append, List.map_append, List.cons_append]
  congr 2
  by_cases h : memB (nthL E k) c = true
  · rw [if_pos h]; simp [h]
  · rw [if_neg h]; simp [h]
theorem kerAcc_leads {E : List (List Int)} (hE : Rref E) {c : Int} (hc : leadsB E c = false) {k : Nat} (hk : k < E.length) : lead (nthL E k) ∉ kerAcc (E.take k) c := by
  intro h
  unfold kerAcc at h
  rcases List.mem_cons.1 h with h | h
  · unfold leadsB at hc
    rw [List.any_eq_false] at hc
    exact hc _ (nthL_mem hk) (by simp [h])
  · obtain ⟨r, hr, e⟩ := List.mem_map.1 h
    have hr := (List.mem_filter.1 hr).1
    obtain ⟨j, hj, rfl⟩ := List.getElem_of_mem hr
    have hjk : j < k := by simp at hj; omega
    have h1 := List.pairwise_iff_getElem.1 hE.inc j k (by omega) hk hjk
    rw [nthL_eq hk] at e
    simp only [List.getElem_take] at e
    omega
theorem nullTo_spec {E : List (List Int)} (hE : Rref E) {c : Int} (hc : leadsB E c = false) : ∀ k, k ≤ E.length → Ord (nullTo E c k) ∧ (kerAcc (E.take k) c).Nodup ∧ ∀ z, z ∈ nullTo E c k ↔ z ∈ kerAcc (E.take k) c := by
  intro k
  induction k with
  | zero => intro _; exact ⟨List.pairwise_singleton _ _, by simp [kerAcc], fun z => by simp [nullTo, kerAcc]⟩
  | succ k ih =>
    intro hk
    obtain ⟨h1, h2, h3⟩ := ih (by omega)
    have hn := kerAcc_leads hE hc (k := k) (by omega)
    rw [kerAcc_takeN (by omega)]
    unfold nullTo
    by_cases h : memB (nthL E k) c = true
    · rw [if_pos h, if_pos h]
      have ho : Ord [lead (nthL E k)] := List.pairwise_singleton _ _
      refine ⟨xorL_ord h1 ho, ?_, fun z => ?_⟩
      · rw [List.nodup_append]
        exact ⟨h2, by simp, fun a ha b hb e => hn (by rw [← List.mem_singleton.1 hb, ← e]; exact ha)⟩
      · rw [mem_xorL h1 ho, h3, List.mem_append, List.mem_singleton]
        by_cases hz : z = lead (nthL E k)
        · subst hz
          simp [hn]
        · simp [hz]
    · rw [if_neg h, if_neg h, List.append_nil]
      exact ⟨h1, h2, h3⟩
theorem sortL_ord {l : List Int} (h : l.Nodup) : Ord (sortL l) := by
  have hs : (sortL l).Pairwise (fun x y => decide (x ≤ y) = true) := List.pairwise_mergeSort (le := fun x y : Int => decide (x ≤ y)) (fun a b c h1 h2 => by simp at *; omega) (fun a b => by simp; omega) l
  have hn : (sortL l).Nodup := (sortL_perm l).nodup_iff.2 h
  unfold Ord
  refine (hs.and hn).imp fun {a b} h => ?_
  have h1 : a ≤ b := by simpa using h.1
  have h2 : a ≠ b := h.2
  omega
theorem nullTo_all {E : List (List Int)} (hE : Rref E) {c : Int} (hc : leadsB E c = false) : nullTo E c E.length = sortL (kerAcc E c) := by
  obtain ⟨h1, h2, h3⟩ := nullTo_spec hE hc E.length (Nat.le_refl _)
  rw [List.take_length] at h2 h3
  exact ord_ext h1 (sortL_ord h2) fun z => (h3 z).trans (sortL_perm _).mem_iff.symm
end Go.Proofs.Ytijmjliijjkcbaa
/- The reference's kernel: its walk. -/
namespace Go.Proofs.Ytijmjliijjkcbaa
set_option linter.unusedVariables false
open Go.RowKit
attribute [local go_sem ↓] Go.wp_at_zero Go.wp_at_succ

theorem nullTo_length {E : List (List Int)} (hE : Rref E) {c : Int} (hc : leadsB E c = false) : ∀ k, k ≤ E.length → (nullTo E c k).length ≤ k + 1 := by
  intro k
  induction k with
  | zero => intro _; simp [nullTo]
  | succ k ih =>
    intro hk
    have ih := ih (by omega)
    unfold nullTo
    split
    · have := length_xorL (nullTo_spec hE hc k (by omega)).1 (List.pairwise_singleton (· < ·) (lead (nthL E k)))
      simp only [List.length_singleton] at this
      omega
    · omega
theorem nullTo_next (E : List (List Int)) (c : Int) (k : Nat) : nullTo E c (k + 1) = if memB (nthL E k) c = true then xorL (nullTo E c k) [lead (nthL E k)] else nullTo E c k := rfl
theorem one_ints {w : World} {x : Int} (h : WF x) : Ints (fun b => w.heap.size ≤ b) (w.alloc (.cells #[.int .i64 x] 3)) (.slice (some ⟨w.heap.size, 0, none⟩) 1 1) [x] :=
  ((row_new w [.int .i64 x] 3).ints (l := [x]) (by simp [maxLen]) (fun y hy => by rw [List.mem_singleton.1 hy]; exact h)).mono fun b hb => by omega

set_option maxRecDepth 100000 in
set_option maxHeartbeats 4000000 in
theorem refNull_calls {S : Nat → Prop} {w : World} {va : Value} {m : Mx} (ha : MatV S w va m) (ok : MOk m) :
    Calls Try.prog 52 #[va] w (Post w (RetX w.heap.size ⟨m.cols, kerTo (rowsE m) m.cols.toNat⟩)) := by
  obtain ⟨cols, ll⟩ := m
  obtain ⟨ra, rfl, la⟩ := ha
  obtain ⟨aa, acap, rfl, aad, al1, alm⟩ := la.form
  dsimp only at la al1 aad ⊢
  have hc0 : 0 ≤ cols := ok.c0
  have hc1 : cols ≤ 4096 := ok.c1
  have HRR := Lib.hid (rowsE_rref ok)
  have HK := Lib.hid ok.kok
  have ex : Below w.heap.size w ((w.alloc (.cells #[.int .i64 cols, .slice aa ll.length acap] 24)).alloc (.cells #[.int .i64 0, .slice none 0 0] 24)) := ext_alloc' (ext_alloc w _) _
  have r0 := (row_new w [.int .i64 cols, .slice aa ll.length acap] 24).alloc (.cells #[.int .i64 0, .slice none 0 0] 24)
  have r1 := row_new (w.alloc (.cells #[.int .i64 cols, .slice aa ll.length acap] 24)) [.int .i64 0, .slice none 0 0] 24
  simp only [World.size_alloc] at r1
  have KR := Lib.hid (reduced_calls (va := .agg #[.int .i64 cols, .slice aa ll.length acap]) (m := ⟨cols, ll⟩) ⟨_, rfl, la.ext ex⟩ ok)
  obtain ⟨E, hE⟩ : ∃ E, E = rowsE ⟨cols, ll⟩ := ⟨_, rfl⟩
  rw [← hE] at KR HRR HK ⊢
  obtain ⟨n, hn⟩ : ∃ n : Nat, cols = (n : Int) := ⟨cols.toNat, by omega⟩
  subst hn
  simp only [Int.toNat_natCast]
  have hEl : E.length ≤ 4096 := HK.out.len
  clear hE ok
  go_enter Try.func52, Try.ntmps52
  go_wp2_with fail
  refine KR.out.mono ?_
  rintro _ w1 ⟨_, rfl, hb1, rv1, rfl, hl0⟩
  have hx1 := ext_trans ex hb1
  have R0 := r0.ext hb1
  have R1 := r1.ext hb1
  have hb1s := hb1.size
  have hl : Lists TT w1 rv1 E := hl0.mono fun _ _ => trivial
  obtain ⟨a1, c1, rfl, ad1, l11, l12⟩ := hl.form
  unfold maxLen at l12
  simp only [World.size_alloc] at hb1s
  clear KR r0 r1 ex hb1 hl0
  dsimp only
  obtain ⟨i0, hi, hz0, hz1, hz2⟩ := info_parts info_ints
  have HQE := Lib.hid (idx_one Try.underlying22 hi hz1 ad1)
  clear hi hz0 hz1 hz2
  obtain ⟨q00, q01⟩ := R0.two
  have hz0w := R0.lt
  go_upto_region 3 with fail
  obtain ⟨T4, hT4⟩ : ∃ T4, T4 = w1.heap.size := ⟨_, rfl⟩
  obtain ⟨w2, hw2⟩ : ∃ w2, w2 = (w1.alloc (.cells #[.int .i64 n, .slice a1 E.length c1] 24)).alloc (.cells #[.int .i64 n, .slice none 0 0] 24) := ⟨_, rfl⟩
  rw [← hw2, ← hT4]
  have hb2 : Below w1.heap.size w1 w2 := by rw [hw2]; exact ext_alloc' (ext_alloc _ _) _
  have RT4 : Row w2 T4 24 [.int .i64 n, .slice a1 E.length c1] := by rw [hw2, hT4]; exact (row_new _ _ _).alloc _
  have ROB : Row w2 (T4 + 1) 24 [.int .i64 n, .slice none 0 0] := by
    rw [hw2, hT4]
    have := row_new (w1.alloc (.cells #[.int .i64 n, .slice a1 E.length c1] 24)) [.int .i64 n, .slice none 0 0] 24
    simpa only [World.size_alloc] using this
  have R0 := R0.ext hb2
  have R1 := R1.ext hb2
  have hx2 := ext_trans hx1 hb2
  have hl := hl.block.ext hb2
  have hT4a : w1.heap.size ≤ T4 := by omega
  have hT4b : T4 ≤ w1.heap.size := by omega
  have hT4w : w.heap.size + 1 < T4 := by omega
  have hB0 : T4 + 1 + 1 ≤ w2.heap.size := by have := ROB.lt; omega
  have hrq : Agree (fun b => b < T4 + 1 + 1 ∧ b ≠ T4 + 1) w2 w2 := .refl _ _
  clear hw2 hb2 q00 q01 hT4
  go_wp2
  go_loopw [5, 6, 7] (fun i _ _ wr => ∃ (c : Nat) (rv : Value) (vs : List Value), c ≤ n ∧ i = .int .i64 c ∧ Below w.heap.size w wr ∧ T4 + 1 + 1 ≤ wr.heap.size ∧ Agree (fun b => b < T4 + 1 + 1 ∧ b ≠ T4 + 1) w2 wr ∧ Row wr (T4 + 1) 24 [.int .i64 n, rv] ∧ OwnList 38 (T4 + 1 + 1) wr rv vs (kerTo E c)) (fun i _ _ _ => n - (intOf i).toNat)
  case atStart => exact ⟨0, _, [], Nat.zero_le _, rfl, hx2, hB0, hrq, ROB, .nil _ _ _⟩
  case round =>
    obtain ⟨c, rv, vs, hc, rfl, hbr, hBr, hAr, ROBr, hO⟩ := hrel
    obtain ⟨wo, hwo⟩ : ∃ wo : World, wo = wr := ⟨_, rfl⟩
    rw [← hwo] at hbr hBr hAr ROBr hO ⊢
    clear hwo
    have R0o := R0.agreeN hAr (by omega) (by omega)
    obtain ⟨q00, q01⟩ := R0o.two
    by_cases hcn : c < n
    · have RTo := RT4.agreeN hAr (by omega) (by omega)
      obtain ⟨p0, p1⟩ := RTo.two
      have hlo := hl.agree (hAr.mono (S' := fun b => True ∧ b < w1.heap.size) fun b hb => by omega)
      have KL := Lib.hid (leads_calls (va := .agg #[.int .i64 n, .slice a1 E.length c1]) (m := ⟨n, E⟩) ⟨_, rfl, hlo⟩ HK.out.ne (c : Int))
      have HKS := Lib.hid (kerTo_succ E c)
      have HO := Lib.hid hO
      clear hO
      go_wp2_with fail
      refine KL.out.mono ?_
      rintro _ w3 ⟨_, rfl, hb3, rfl⟩
      dsimp only
      cases hq : leadsB E (c : Int) with
      | true =>
        rw [hq, if_pos rfl, List.append_nil] at HKS
        have hO := Lib.hid (HO.out.ext hb3)
        rw [← HKS.out] at hO
        have PA : Agree (fun b => b < T4 + 1 + 1 ∧ b ≠ T4 + 1) w2 w3 := hAr.trans (.of_ext hb3)
        have hsz := hb3.size
        have hbw := ext_trans hbr hb3
        have P3 := ROBr.ext hb3
        clear hq KL hlo
        go_wp2
        go_roundw
        case rel => exact ⟨c + 1, rv, vs, by omega, by go_num, hbw, by omega, PA, P3, hO.out⟩
        case measure => simp [intOf]; omega
      | false =>
        rw [hq, if_neg (by simp)] at HKS
        have HN := Lib.hid hq
        have hbo := hb3
        have H1 := Lib.hid ((one_ints (w := w3) (x := (c : Int)) (WF.small (by omega))).mono (S' := fun b => wo.heap.size ≤ b) fun b hb => by have := hb3.size; omega)
        have hbo1 : Below wo.heap.size wo (w3.alloc (.cells #[.int .i64 (c : Int)] 3)) := ext_alloc' hb3 _
        have hlo := Lib.hid hlo
        clear hq KL
        go_wp2
        go_loopw [6, 7] (fun vo i wi => ∃ k : Nat, k ≤ E.length ∧ i = .int .i64 k ∧ Below wo.heap.size wo wi ∧ Ints (fun b => wo.heap.size ≤ b) wi vo (nullTo E (c : Int) k)) (fun _ i _ => E.length - (intOf i).toNat)
        case atStart => exact ⟨0, Nat.zero_le _, rfl, hbo1, H1.out⟩
        case round =>
          obtain ⟨k, hk, rfl, hbi, hI⟩ := hrel
          have RTi := RTo.ext hbi
          obtain ⟨p0, p1⟩ := RTi.two
          obtain ⟨av, cv, rfl, _⟩ := hI.form
          by_cases hlt : k < E.length
          · have q := HQE.out k hlt
            obtain ⟨u, cu, iu⟩ := hlo.out.at hbi hlt
            have hne := HK.out.ne _ (nthL_mem hlt)
            have hrg := HK.out.lead_rng hlt
            have HT := Lib.hid (nullTo_next E (c : Int) k)
            have hnl := nullTo_length HRR.out HN.out k (by omega)
            obtain ⟨r, hr⟩ : ∃ r, r = nthL E k := ⟨_, rfl⟩
            rw [← hr] at iu hne hrg HT
            obtain ⟨ar, cr, rfl, _⟩ := iu.form
            obtain ⟨cf, qf, bf⟩ := first_cell iu hne
            obtain ⟨p, hp⟩ : ∃ p, p = lead r := ⟨_, rfl⟩
            rw [← hp] at cf hrg HT
            have HH := Lib.hid (refHas_quiet iu (c : Int))
            obtain ⟨acc, hacc⟩ : ∃ acc, acc = nullTo E (c : Int) k := ⟨_, rfl⟩
            rw [← hacc] at hI HT hnl ⊢
            have HI := Lib.hid hI
            clear hr hp hacc hI
            go_wp2_with fail
            refine (HH.out.mono fun _ _ h => h.post).mono ?_
            rintro _ w5 ⟨_, rfl, hb5, rfl⟩
            have hb5' := ext_trans hbi hb5
            have I5 := HI.out.ext hb5
            have RT5 := RTi.ext hb5
            obtain ⟨p0, p1⟩ := RT5.two
            have cu5 := cell_ext cu hb5
            have cf5 := cell_ext cf hb5
            cases hod : memB r (c : Int) with
            | false =>
              rw [hod, if_neg (by simp)] at HT
              rw [← HT.out] at I5
              have I5 := Lib.hid I5
              have e : (Value.slice av acc.length cv) = .slice av (nullTo E (c : Int) (k + 1)).length cv := by rw [HT.out]
              rw [e]
              clear hod e
              go_wp2
              go_roundw
              case rel => exact ⟨k + 1, by omega, by go_num, hb5', I5.out⟩
              case measure => simp [intOf]; omega
            | true =>
              rw [hod, if_pos rfl] at HT
              have hz5 := hb5'.size
              have e6 : Below w5.heap.size w5 (w5.alloc (.cells #[.int .i64 p] 3)) := ext_alloc _ _
              have KP := Lib.hid (plus_calls (I5.ext e6) (one_ints (w := w5) (x := p) (WF.small (by omega))) (by simp; omega))
              clear hod cf cu
              go_wp2_with fail
              refine KP.out.mono ?_
              rintro _ w6 ⟨v6, rfl, hb6, hI6⟩
              have hb6' := ext_trans hb5' (ext_trans e6 hb6)
              rw [← HT.out] at hI6
              have I6 := Lib.hid (hI6.mono (S' := fun b => wo.heap.size ≤ b) fun b hb => by simp at hb; omega)
              clear hI6 KP
              go_wp2
              go_roundw
              case rel => exact ⟨k + 1, by omega, by go_num, hb6', I6.out⟩
              case measure => simp [intOf]; omega
          · obtain rfl : k = E.length := by omega
            rw [nullTo_all HRR.out HN.out] at hI ⊢
            have HI := Lib.hid hI
            obtain ⟨sl, hsle⟩ : ∃ sl, sl = sortL (kerAcc E (c : Int)) := ⟨_, rfl⟩
            rw [← hsle] at HI HKS ⊢
            have ROB8 := ROBr.ext hbi
            have ORW := Lib.hid (HO.out.ext hbi).row
            have hkl := kerTo_length E c
            have hz8 := hbi.size
            have HNE := Lib.hid (fun (k : Nat) (hk : rv.ownBlock = some k) => (HO.out.row.lt k hk))
            have HO1 := Lib.hid HO.out
            obtain ⟨kl, hkle⟩ : ∃ kl, kl = kerTo E c := ⟨_, rfl⟩
            rw [← hkle] at ORW hkl HO1 HKS
            obtain ⟨o0, o1⟩ := ROB8.two
            clear hsle hkle hI HO
            go_wp2_with (at_builtin; refine wpList_push rfl _ _ 22 rfl 38 _ 24 Try.underlying22 info_ints rfl (T4 + 1 + 1) _ _ _ rfl ORW.out (.slice av sl.length cv) rfl rfl (by omega) (by omega) (by omega) ?_; intro g6 cp6 w6 hown6 hbel6 hag6 hat6; have R6 := ROB8.agree (S := fun b => b = T4 + 1) (hag6 _ fun k hk e => by have := (HNE.out k hk).1; omega) rfl; have f6 := R6.free 1; have c6 := R6.cell (j := 1) rfl)
            have HP := out_push0 (T := 24) (OB := T4 + 1) (B := T4 + 1 + 1) (by omega) hBr ROBr HO1.out hbi HI.out hown6 hag6 hbel6 hat6
            obtain ⟨P3, PO, PA, PB⟩ := HP
            have PB0 := PB w.heap.size (by omega)
            have hsz := PA.size
            have PO2 := Lib.hid PO
            rw [← HKS.out] at PO2
            have hAf := hAr.trans PA
            clear PA PB PO hag6 hown6 hbel6
            go_wp2
            go_roundw
            case rel => exact ⟨c + 1, _, _, by omega, by go_num, hbr.trans PB0, by omega, hAf, P3, PO2.out⟩
            case measure => simp [intOf]; omega
    · obtain rfl : c = n := by omega
      have hL := hO.lists
      obtain ⟨a9, c9, rfl, _⟩ := hL.form
      obtain ⟨o0, o1⟩ := ROBr.two
      have R1r := R1.agreeN hAr (by omega) (by omega)
      obtain ⟨q10, q11⟩ := R1r.two
      have f10 := R1r.free 0
      have f11 := R1r.free 1
      go_wp2
      refine bodyPost_ret (v := .agg #[.int .i64 c, .slice a9 (kerTo E c).length c9]) (by simp [results, Try.results52, go_sem, q10, q11]) rfl ?_
      exact .mk (set2_below _ _ hbr (by omega)) ⟨_, rfl, (hL.agree (set2_agree (B := T4 + 1 + 1) _ _ (by omega))).mono fun b hb => by omega⟩

set_option maxRecDepth 100000 in
set_option maxHeartbeats 1000000 in
theorem refKernel_calls {S : Nat → Prop} {w : World} {va : Value} {m : Mx} (ha : MatV S w va m) :
    Calls Try.prog 21 #[va] w (Post w (RetM w.heap.size (kerS m))) := by
  obtain ⟨cols, ll⟩ := m
  obtain ⟨ra, rfl, la⟩ := ha
  obtain ⟨aa, acap, rfl, aad, al1, alm⟩ := la.form
  dsimp only at la al1 aad ⊢
  have ex : Below w.heap.size w ((w.alloc (.cells #[.int .i64 cols, .slice aa ll.length acap] 24)).alloc (.cells #[.int .i64 0, .slice none 0 0] 24)) := ext_alloc' (ext_alloc w _) _
  have r0 := (row_new w [.int .i64 cols, .slice aa ll.length acap] 24).alloc (.cells #[.int .i64 0, .slice none 0 0] 24)
  have r1 := row_new (w.alloc (.cells #[.int .i64 cols, .slice aa ll.length acap] 24)) [.int .i64 0, .slice none 0 0] 24
  simp only [World.size_alloc] at r1
  have KC := Lib.hid (refCheck_calls (v := .agg #[.int .i64 cols, .slice aa ll.length acap]) (m := ⟨cols, ll⟩) ⟨_, rfl, la.ext ex⟩)
  go_enter Try.func21, Try.ntmps21
  go_wp2_with fail
  refine KC.out.mono ?_
  rintro _ w1 ⟨_, rfl, hb1, rfl⟩
  have hx1 := ext_trans ex hb1
  have R0 := r0.ext hb1
  have R1 := r1.ext hb1
  clear KC r0 r1 ex
  obtain ⟨q10, q11⟩ := R1.two
  have f10 := R1.free 0
  have f11 := R1.free 1
  have hz1w := R1.lt
  by_cases h1 : ¬ checkM ⟨cols, ll⟩ = 0
  · have e1 : (checkM ⟨cols, ll⟩ != 0) = true := by simp [h1]
    have R := Lib.hid (kerS_err h1)
    clear h1
    go_wp2
    refine bodyPost_ret (v := .tuple #[.agg #[.int .i64 0, .slice none 0 0], .int .i64 (checkM ⟨cols, ll⟩)]) (by simp [results, Try.results21, go_sem, q10, q11]) rfl ?_
    exact .mk (set2_below _ _ hx1 (by omega)) (.none R.out)
  have h1 := Classical.not_not.1 h1
  have e1 : (checkM ⟨cols, ll⟩ != 0) = false := by simp [h1]
  have R := Lib.hid (kerS_ok h1)
  obtain ⟨q0, q1⟩ := R0.two
  have KT := Lib.hid (refNull_calls (va := .agg #[.int .i64 cols, .slice aa ll.length acap]) (m := ⟨cols, ll⟩) (w := w1) ⟨_, rfl, la.ext hx1⟩ (checkM_zero.1 h1))
  clear h1
  go_wp2_with fail
  refine KT.out.mono ?_
  rintro _ w2 ⟨v2, rfl, hb2, rv, rfl, hl2⟩
  obtain ⟨a2, c2, rfl, _⟩ := hl2.form
  have R1 := R1.ext hb2
  obtain ⟨q10, q11⟩ := R1.two
  have f10 := R1.free 0
  have f11 := R1.free 1
  have hbs := hx1.size
  have HL2 := Lib.hid hl2
  dsimp only
  go_wp2
  refine bodyPost_ret (v := .tuple #[.agg #[.int .i64 cols, .slice a2 (kerTo (rowsE ⟨cols, ll⟩) cols.toNat).length c2], .int .i64 0]) (by simp [results, Try.results21, go_sem, q10, q11]) rfl ?_
  exact .mk (set2_below _ _ (ext_trans hx1 hb2) (by omega)) (.mk R.out ((HL2.out.agree (set2_agree _ _ (by omega))).mono fun b hb => by omega))
end Go.Proofs.Ytijmjliijjkcbaa
