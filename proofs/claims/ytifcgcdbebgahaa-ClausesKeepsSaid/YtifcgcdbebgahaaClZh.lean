/- The helpers of the statements: few, model, propagates, the example. -/
import Derived.Test.YtifcgcdbebgahaaClZg
import Derived.Test.YtifcgcdbebgahaaSlices
namespace Go.Proofs.Ytifcgcdbebgahaa
set_option linter.unusedVariables false
open Go.RowKit
attribute [local go_sem ↓] Go.wp_at_zero Go.wp_at_succ

theorem row_at (w : World) (xs : List Value) (e : TypeId) (B : Nat) (h : B = w.heap.size) : Row (w.alloc (.cells xs.toArray e)) B e xs := by subst h; exact row_new w xs e
theorem lit_at {W : World} {B : Nat} {e : TypeId} {l : List Int} (h : Row W B e (l.map (Value.int .i64))) (hl : l.length ≤ 65536) (hf : ∀ x ∈ l, -1000000000 ≤ x ∧ x ≤ 1000000000) : Ints TT W (.slice (some ⟨B, 0, none⟩) l.length l.length) l :=
  (Row.ints h (by unfold maxLen; omega) fun x hx => WF.small (hf x hx)).mono fun _ _ => trivial
theorem lits_at {W : World} {B : Nat} {e : TypeId} {vs : List Value} {ll : List (List Int)} (h : Row W B e vs) (hl : ll.length ≤ 65536) (hv : AllIn TT W vs ll) : Lists TT W (.slice (some ⟨B, 0, none⟩) ll.length ll.length) ll := by
  refine ⟨_, _, rfl, .inr ⟨_, 0, rfl, h.lt, trivial⟩, Nat.le_refl _, by unfold maxLen; omega, fun j hj => ⟨nthV vs j, ?_, hv.get j hj⟩⟩
  rw [adr_add, Nat.zero_add]
  exact h.cell (nthV_get (by rw [hv.len]; exact hj))
def exC : Mx := ⟨4, [[1, 2], [-1, 3], [-2, -3], [-2, 4]]⟩
set_option maxRecDepth 100000 in
theorem example_calls (w : World) : Calls Try.prog 37 #[] w (Post w fun w' r => ∃ a cap, r = .agg #[.int .i64 4, .slice a 4 cap] ∧ MatV TT w' (.agg #[.int .i64 4, .slice a 4 cap]) exC) := by
  go_enter Try.func37, Try.ntmps37
  go_wp2
  refine bodyPost_ret (v := .agg #[.int .i64 4, .slice (some ⟨w.heap.size + 1 + 1 + 1 + 1 + 1, 0, none⟩) 4 4]) (by simp [results, Try.results37, go_sem]) rfl ?_
  refine .mk (by repeat (first | exact Below.refl _ _ | refine ext_alloc' ?_ _)) ⟨_, _, rfl, _, rfl, ?_⟩
  refine lits_at (e := 25) (ll := [[1, 2], [-1, 3], [-2, -3], [-2, 4]]) (row_at _ _ _ _ (by simp)) (by decide) ⟨?_, ?_, ?_, ?_, trivial⟩
  · refine lit_at (e := 3) (l := [1, 2]) ?_ (by decide) (by decide)
    repeat (first | exact row_at _ _ _ _ (by simp) | refine Row.alloc ?_ _)
  · refine lit_at (e := 3) (l := [-1, 3]) ?_ (by decide) (by decide)
    repeat (first | exact row_at _ _ _ _ (by simp) | refine Row.alloc ?_ _)
  · refine lit_at (e := 3) (l := [-2, -3]) ?_ (by decide) (by decide)
    repeat (first | exact row_at _ _ _ _ (by simp) | refine Row.alloc ?_ _)
  · refine lit_at (e := 3) (l := [-2, 4]) ?_ (by decide) (by decide)
    repeat (first | exact row_at _ _ _ _ (by simp) | refine Row.alloc ?_ _)

/-- What few says. -/
def fewL (m : Mx) (ls : List (List Int)) : Bool := ls.all (fun l => decide (l.length ≤ 40)) && fewC m
theorem fewL_true {m : Mx} {ls : List (List Int)} (h : fewL m ls = true) : (∀ l ∈ ls, l.length ≤ 40) ∧ fewC m = true := by
  unfold fewL at h
  rw [Bool.and_eq_true, List.all_eq_true] at h
  exact ⟨fun l hl => by simpa using h.1 l hl, h.2⟩
theorem fewC_true {m : Mx} (h : fewC m = true) (h0 : sizesS m = 0) : m.rows.length ≤ 40 ∧ m.cols ≤ 14 ∧ ∀ r ∈ m.rows, r.length ≤ 20 := by
  unfold fewC at h
  rw [Bool.or_eq_true] at h
  rcases h with h | h
  · simp [h0] at h
  · simp only [Bool.and_eq_true, decide_eq_true_eq, List.all_eq_true] at h
    exact ⟨h.2.1, h.2.2, fun r hr => h.1 r (by rw [List.take_of_length_le (by omega)]; exact hr)⟩
set_option maxRecDepth 100000 in
set_option maxHeartbeats 1000000 in
theorem few_calls {S S' : Nat → Prop} {w : World} {va vb : Value} {m : Mx} {ls : List (List Int)} (ha : MatV S w va m) (hb : Lists S' w vb ls) :
    Calls Try.prog 11 #[va, vb] w (Post w fun _ r => r = .bool (fewL m ls)) := by
  obtain ⟨cols, ll⟩ := m
  obtain ⟨ra, rfl, la⟩ := ha
  obtain ⟨aa, acap, rfl, _⟩ := la.form
  obtain ⟨ab, bcap, rfl, bd, bl1, blm⟩ := hb.form
  dsimp only at la ⊢
  unfold maxLen at blm
  obtain ⟨i0, hi, hz0, hz1, hz2⟩ := info_parts info_ints
  have HQ := Lib.hid (idx_one Try.underlying22 hi hz1 bd)
  have ex := ext_alloc w (.cells #[.int .i64 cols, .slice aa ll.length acap] 24)
  have r0 := row_new w [.int .i64 cols, .slice aa ll.length acap] 24
  have HLB := Lib.hid hb
  have KF := Lib.hid (fun (W : World) (hW : Below w.heap.size w W) => refFew_calls (v := .agg #[.int .i64 cols, .slice aa ll.length acap]) (m := ⟨cols, ll⟩) (S := S) ⟨_, rfl, la.ext hW⟩)
  obtain ⟨E, hE⟩ : ∃ E, E = fewL ⟨cols, ll⟩ ls := ⟨_, rfl⟩
  obtain ⟨f, hf⟩ : ∃ f, f = fewC ⟨cols, ll⟩ := ⟨_, rfl⟩
  rw [← hE]
  rw [← hf] at KF
  have HE : Hid (E = (ls.all (fun l => decide (l.length ≤ 40)) && f)) := Lib.hid (by rw [hE, hf]; rfl)
  clear hb la hi hz0 hz1 hz2 hE hf
  go_enter Try.func11, Try.ntmps11
  go_wp2
  go_loopw [9] (fun i wr => ∃ k : Nat, k ≤ ls.length ∧ i = .int .i64 k ∧ Below w.heap.size w wr ∧ Row wr w.heap.size 24 [.int .i64 cols, .slice aa ll.length acap] ∧ Hid (∀ j, j < k → (nthL ls j).length ≤ 40)) (fun i _ => ls.length - (intOf i).toNat)
  case atStart => exact ⟨0, Nat.zero_le _, rfl, ex, r0, Lib.hid fun j hj => absurd hj (by omega)⟩
  case round =>
    obtain ⟨k, hk, rfl, hb, hr, hF⟩ := hrel
    by_cases hlt : k < ls.length
    · have q := HQ.out k hlt
      obtain ⟨u, cu, iu⟩ := HLB.out.at hb hlt
      obtain ⟨ua, uc, rfl, _⟩ := iu.form
      have HM := Lib.hid (nthL_mem hlt)
      obtain ⟨n, hn⟩ : ∃ n, n = (nthL ls k).length := ⟨_, rfl⟩
      rw [← hn] at cu
      have HN := Lib.hid hn
      clear iu hn
      by_cases h1 : n ≤ 40
      · have e1 : decide (40 < n) = false := decide_eq_false (by omega)
        have HF2 : Hid (∀ j, j < k + 1 → (nthL ls j).length ≤ 40) := Lib.hid fun j hj => by
          by_cases e : j = k
          · rw [e, ← HN.out]; exact h1
          · exact hF.out j (by omega)
        clear hF
        go_wp2
        go_roundw
        case rel => exact ⟨k + 1, by omega, by go_num, hb, hr, HF2⟩
        case measure => simp [intOf]; omega
      · have e1 : decide (40 < n) = true := decide_eq_true (by omega)
        have e2 : 40 < n := by omega
        have R : Hid (E = false) := Lib.hid (by
          rw [HE.out]
          have : ls.all (fun l => decide (l.length ≤ 40)) = false := by
            rw [← Bool.not_eq_true, List.all_eq_true]
            intro h
            have := h _ HM.out
            rw [← HN.out] at this
            simp at this
            exact h1 this
          rw [this]; rfl)
        clear h1
        go_wp2
        go_ret
        exact .mk hb (congrArg Value.bool R.out.symm)
    · obtain rfl : k = ls.length := by omega
      have R : Hid (E = f) := Lib.hid (by
        rw [HE.out]
        have : ls.all (fun l => decide (l.length ≤ 40)) = true := by
          rw [List.all_eq_true]
          intro l hl
          obtain ⟨j, hj, rfl⟩ := List.getElem_of_mem hl
          have := hF.out j hj
          rw [nthL_eq hj] at this
          simpa using this
        rw [this]; rfl)
      have hrl := hr.lt
      obtain ⟨q0, q1⟩ := hr.two
      clear hF
      go_wp2_with fail
      refine (KF.out wr hb).mono ?_
      rintro _ w2 ⟨_, rfl, hb2, rfl⟩
      go_wp2
      go_ret
      exact .mk (ext_trans hb hb2) (congrArg Value.bool R.out.symm)

/-- A list of the literals of all variables is a model. -/
def IsModel (n : Int) (l : List Int) : Prop := (l.length : Int) = n ∧ ∀ k, k < l.length → modelAt l k = true
theorem IsModel.ok {n : Int} {l : List Int} (h : IsModel n l) : modelE n l = 0 := modelE_ok h.1 h.2
theorem model_snoc {l : List Int} {x : Int} (h : ∀ k, k < l.length → modelAt l k = true) (hx : x = (l.length : Int) + 1 ∨ x = -((l.length : Int) + 1)) : ∀ k, k < (l ++ [x]).length → modelAt (l ++ [x]) k = true := by
  intro k hk
  simp at hk
  unfold modelAt
  by_cases e : k < l.length
  · have := h k e
    unfold modelAt at this
    have h1 : nth (l ++ [x]) k = nth l k := by simp [nth, List.getElem?_append_left e]
    rw [h1]; exact this
  · obtain rfl : k = l.length := by omega
    have h1 : nth (l ++ [x]) l.length = x := by simp [nth]
    rw [h1]
    rcases hx with h | h
    · rw [decide_eq_true h]; rfl
    · rw [decide_eq_true (show x = -(l.length : Int) - 1 by omega)]; simp
set_option maxRecDepth 100000 in
set_option maxHeartbeats 2000000 in
theorem model_calls (w : World) {n : Int} (hn : 0 ≤ n ∧ n ≤ 14) (b : Int) :
    Calls Try.prog 23 #[.int .i64 n, .int .u16 b] w (Post w fun w' r => ∃ l, IsModel n l ∧ w'.ownsRow w.heap.size 3 1 r l.length (l.map (Value.int .i64))) := by
  obtain ⟨hn0, hn1⟩ := hn
  go_enter Try.func23, Try.ntmps23
  go_wp2
  go_loopw [5, 6] (fun vo i wr => ∃ (k : Nat) (l : List Int), (k : Int) ≤ n ∧ i = .int .i64 ((k : Int) + 1) ∧ Below w.heap.size w wr ∧ wr.ownsRow w.heap.size 3 1 vo l.length (l.map (Value.int .i64)) ∧ Hid (l.length = k ∧ ∀ j, j < l.length → modelAt l j = true)) (fun _ i _ => n.toNat + 1 - (intOf i).toNat)
  case atStart => exact ⟨0, [], hn0, rfl, .refl _ _, World.ownsRow_nil _ _ _ _, Lib.hid ⟨rfl, fun j hj => by simp at hj⟩⟩
  case round =>
    obtain ⟨k, l, hk, rfl, hb, ho, hF⟩ := hrel
    have hll : l.length ≤ 1000000 := by have := hF.out.1; omega
    have hsz := hb.size
    by_cases hlt : (k : Int) < n
    · have O := Lib.hid ho
      have hle : (k : Int) + 1 ≤ n := by omega
      have hwr : IntKind.i64.wrap ((k : Int) + 1 - 1) = k := by rw [Int.add_sub_cancel]; exact IntWalk.i64_in _ (by omega)
      have hk16 : (k : Int) ≤ 16 := by omega
      have hk0 : (0 : Int) ≤ (k : Int) := by omega
      clear ho
      go_wp2_with (first
        | (at_builtin; refine wpList_push rfl (.tmp 18) (.tmp 20) 25 rfl 3 _ 8 Try.underlying25 info_int rfl w.heap.size _ _ _ rfl O.out (.int .i64 ((k : Int) + 1)) rfl rfl (by omega) (by omega) hsz ?_; intro g' c' w5 hown5 hbel5 _ _)
        | (at_builtin; refine wpList_push rfl (.tmp 22) (.tmp 25) 25 rfl 3 _ 8 Try.underlying25 info_int rfl w.heap.size _ _ _ rfl O.out (.int .i64 (-((k : Int) + 1))) rfl rfl (by omega) (by omega) hsz ?_; intro g' c' w5 hown5 hbel5 _ _))
      · have hb5 := hb.trans hbel5
        have hF2 : Hid ((l ++ [(k : Int) + 1]).length = k + 1 ∧ ∀ j, j < (l ++ [(k : Int) + 1]).length → modelAt (l ++ [(k : Int) + 1]) j = true) := Lib.hid ⟨by simp [hF.out.1], model_snoc hF.out.2 (by rw [hF.out.1]; omega)⟩
        have hO5 : Hid (w5.ownsRow w.heap.size 3 1 (.slice (some ⟨g', 0, none⟩) (l.length + 1) c') (l ++ [(k : Int) + 1]).length ((l ++ [(k : Int) + 1]).map (Value.int .i64))) := Lib.hid (by simpa using hown5)
        clear hown5 hbel5 hF
        go_roundw
        case rel => exact ⟨k + 1, l ++ [(k : Int) + 1], by omega, by go_num, hb5, hO5.out, hF2⟩
        case measure => simp [intOf]; omega
      · have hb5 := hb.trans hbel5
        have hF2 : Hid ((l ++ [-((k : Int) + 1)]).length = k + 1 ∧ ∀ j, j < (l ++ [-((k : Int) + 1)]).length → modelAt (l ++ [-((k : Int) + 1)]) j = true) := Lib.hid ⟨by simp [hF.out.1], model_snoc hF.out.2 (by rw [hF.out.1]; omega)⟩
        have hO5 : Hid (w5.ownsRow w.heap.size 3 1 (.slice (some ⟨g', 0, none⟩) (l.length + 1) c') (l ++ [-((k : Int) + 1)]).length ((l ++ [-((k : Int) + 1)]).map (Value.int .i64))) := Lib.hid (by simpa using hown5)
        clear hown5 hbel5 hF
        go_roundw
        case rel => exact ⟨k + 1, l ++ [-((k : Int) + 1)], by omega, by go_num, hb5, hO5.out, hF2⟩
        case measure => simp [intOf]; omega
    · have hkn : (k : Int) = n := by omega
      have HO := Lib.hid ho
      have hno : ¬ (k : Int) + 1 ≤ n := by omega
      have HKN := Lib.hid hkn
      clear ho hkn
      go_wp2
      go_ret
      exact .mk hb ⟨l, ⟨by rw [hF.out.1]; exact HKN.out, hF.out.2⟩, HO.out⟩
end Go.Proofs.Ytifcgcdbebgahaa
