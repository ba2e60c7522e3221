/- Clauses without literals; the errors of clauses and assignments, in the reference. -/
import Derived.Test.YtifcgcdbebgahaaClC
namespace Go.Proofs.Ytifcgcdbebgahaa
set_option linter.unusedVariables false
open Go.RowKit
attribute [local go_sem ↓] Go.wp_at_zero Go.wp_at_succ

def withoutP (c lits : List Int) : List Int := c.filter fun x => !memB lits (wrap64 (-x))
theorem without_succ {c lits : List Int} {k : Nat} (hk : k < c.length) : withoutP (c.take (k + 1)) lits = withoutP (c.take k) lits ++ (if memB lits (wrap64 (-(nth c k))) = true then [] else [nth c k]) := by
  unfold withoutP
  rw [take_nth hk, List.filter_append, List.filter_cons]
  cases memB lits (wrap64 (-(nth c k))) <;> simp
theorem without_length (c lits : List Int) : (withoutP c lits).length ≤ c.length := List.length_filter_le _ _

set_option maxRecDepth 100000 in
set_option maxHeartbeats 2000000 in
theorem refWithout_calls {S S' : Nat → Prop} {w : World} {va vb : Value} {c lits : List Int} (ha : Ints S w va c) (hb : Ints S' w vb lits) (hn : c.length ≤ 1000000) :
    Calls Try.prog 26 #[va, vb] w (Post w fun w' r => Ints (fun b => w.heap.size ≤ b) w' r (withoutP c lits)) := by
  have hwf := ha.wf
  obtain ⟨a, cap, rfl, ad, l1, lm, hc, _⟩ := ha
  obtain ⟨b, bcap, rfl, _⟩ := hb.form
  unfold maxLen at lm
  obtain ⟨i0, hi, hz1, hz2, hz3⟩ := info_parts info_int
  have HQ := Lib.hid (idx_one Try.underlying25 hi hz2 ad)
  have HC := Lib.hid hc
  have HB := Lib.hid hb
  have HWF : Hid (∀ x ∈ withoutP c lits, WF x) := Lib.hid (fun x hx => hwf x (List.mem_filter.1 hx).1)
  clear hc hi hz1 hz2 hz3 hb hwf
  go_enter Try.func26, Try.ntmps26
  go_wp2
  go_loopw [5, 6] (fun vo i wi => ∃ k : Nat, k ≤ c.length ∧ i = .int .i64 k ∧ Below w.heap.size w wi ∧ wi.ownsRow w.heap.size 3 1 vo (withoutP (c.take k) lits).length ((withoutP (c.take k) lits).map (Value.int .i64))) (fun _ i _ => c.length - (intOf i).toNat)
  case atStart => exact ⟨0, Nat.zero_le _, rfl, .refl _ _, World.ownsRow_nil _ _ _ _⟩
  case round =>
    obtain ⟨k, hk, rfl, hb, ho⟩ := hrel
    by_cases hlt : k < c.length
    · have q := HQ.out k hlt
      have cx := cells_at ad hb HC.out k hlt
      have HT := Lib.hid (without_succ (lits := lits) hlt)
      have hal := without_length (c.take k) lits
      have htl := List.length_take_le k c
      obtain ⟨x, hx⟩ : ∃ x, x = nth c k := ⟨_, rfl⟩
      rw [← hx] at cx HT
      obtain ⟨acc, hacc⟩ : ∃ acc, acc = withoutP (c.take k) lits := ⟨_, rfl⟩
      rw [← hacc] at ho HT hal
      have HH := Lib.hid ((refHas_quiet (HB.out.ext hb) (wrap64 (-x))).mono fun _ _ h => h.post)
      have HO := Lib.hid ho
      have hcl : acc.length ≤ 1000000 := by omega
      clear hx hacc ho
      go_wp2_with fail
      refine HH.out.mono ?_
      rintro _ w2 ⟨_, rfl, hb2, rfl⟩
      have hb2' := ext_trans hb hb2
      have HO2 := Lib.hid (owns_ext HO.out hb2)
      have cx2 := cell_ext cx hb2
      have hsz := hb2'.size
      cases hm : memB lits (wrap64 (-x)) with
      | true =>
        rw [hm, if_pos rfl, List.append_nil] at HT
        rw [← HT.out] at HO2
        clear hm
        go_wp2
        go_roundw
        case rel => exact ⟨k + 1, by omega, by go_num, hb2', HO2.out⟩
        case measure => simp [intOf]; omega
      | false =>
        rw [hm, if_neg (by simp)] at HT
        clear hm
        go_wp2_with (at_builtin; refine wpList_push rfl _ _ 25 rfl 3 _ 8 Try.underlying25 info_int rfl w.heap.size _ _ _ rfl HO2.out (.int .i64 x) rfl rfl (by omega) (by omega) hsz ?_; intro g' c' w5 hown5 hbel5 _ _)
        have hb5 := hb2'.trans hbel5
        have hT2 := Lib.hid (show w5.ownsRow w.heap.size 3 1 (.slice (some ⟨g', 0, none⟩) (acc.length + 1) c') (withoutP (c.take (k + 1)) lits).length ((withoutP (c.take (k + 1)) lits).map (Value.int .i64)) from by rw [HT.out]; simpa using hown5)
        clear hown5 hbel5
        go_wp2
        go_roundw
        case rel => exact ⟨k + 1, by omega, by go_num, hb5, hT2.out⟩
        case measure => simp [intOf]; omega
    · obtain rfl : k = c.length := by omega
      rw [List.take_length] at ho
      have HI := Lib.hid (Ints.of_own ho HWF.out)
      go_wp2
      go_ret
      exact .mk hb HI.out

/-! the error of clauses -/
def firstE (f : List Int → Int) (l : List (List Int)) (k : Nat) : Int := if k < l.length then (if f (nthL l k) ≠ 0 then f (nthL l k) else firstE f l (k + 1)) else 0
termination_by l.length - k
theorem firstE_end {f : List Int → Int} {l : List (List Int)} {k : Nat} (h : l.length ≤ k) : firstE f l k = 0 := by rw [firstE, if_neg (by omega)]
theorem firstE_err {f : List Int → Int} {l : List (List Int)} {k : Nat} (h : k < l.length) {x : Int} (hx : f (nthL l k) = x) (h0 : x ≠ 0) : firstE f l k = x := by rw [firstE, if_pos h, hx, if_pos h0]
theorem firstE_next {f : List Int → Int} {l : List (List Int)} {k : Nat} (h : k < l.length) (hx : f (nthL l k) = 0) : firstE f l k = firstE f l (k + 1) := by rw [firstE, if_pos h, hx]; simp
def checkC (m : Mx) : Int := if sizesS m ≠ 0 then sizesS m else firstE (clauseE m.cols) m.rows 0
theorem sizesS_zero {m : Mx} : sizesS m = 0 ↔ (0 ≤ m.cols ∧ m.cols ≤ 4096) ∧ m.rows.length ≤ 32768 := by
  unfold sizesS
  split
  · constructor
    · intro h; cases h
    · omega
  · split
    · constructor
      · intro h; cases h
      · omega
    · constructor
      · intro _; omega
      · intro _; rfl

set_option maxRecDepth 100000 in
set_option maxHeartbeats 2000000 in
theorem refCheck_calls {S : Nat → Prop} {w : World} {v : Value} {m : Mx} (h : MatV S w v m) :
    Calls Try.prog 21 #[v] w (Post w fun _ r => r = .int .i64 (checkC m)) := by
  obtain ⟨rv, rfl, hl⟩ := h
  obtain ⟨cols, ll⟩ := m
  obtain ⟨a, cap, rfl, ad, l1, lm⟩ := hl.form
  dsimp only at hl l1 ad ⊢
  unfold maxLen at lm
  obtain ⟨i, hi, hz1, hz2, hz3⟩ := info_parts info_ints
  have HQ := Lib.hid (idx_one Try.underlying22 hi hz2 ad)
  have ex := ext_alloc w (.cells #[.int .i64 cols, .slice a ll.length cap] 24)
  have r0 := row_new w [.int .i64 cols, .slice a ll.length cap] 24
  have KS := Lib.hid (refSizes_calls (v := .agg #[.int .i64 cols, .slice a ll.length cap]) (m := ⟨cols, ll⟩) ⟨_, rfl, hl.ext ex⟩)
  obtain ⟨E, hE⟩ : ∃ E, E = checkC ⟨cols, ll⟩ := ⟨_, rfl⟩
  rw [← hE]
  unfold checkC at hE
  dsimp only at hE
  obtain ⟨sz, hsz⟩ : ∃ sz, sz = sizesS ⟨cols, ll⟩ := ⟨_, rfl⟩
  rw [← hsz] at hE KS
  have HSZ := Lib.hid hsz
  have HE := Lib.hid hE
  clear hi hz1 hz2 hz3 hE hsz
  go_enter Try.func21, Try.ntmps21
  go_wp2_with fail
  refine KS.out.mono ?_
  rintro _ w1 ⟨_, rfl, hb1, rfl⟩
  have hx1 := ext_trans ex hb1
  have R0 := r0.ext hb1
  clear KS r0 ex hb1
  by_cases h0 : ¬ sz = 0
  · have e1 : (sz != 0) = true := by simp [h0]
    have R : Hid (E = sz) := Lib.hid (by rw [HE.out, if_pos h0])
    clear h0
    go_wp2
    go_ret
    exact .mk hx1 (int_eq R.out.symm)
  have h0 := Classical.not_not.1 h0
  have e1 : (sz != 0) = false := by simp [h0]
  have HE : Hid (E = firstE (clauseE cols) ll 0) := Lib.hid (by rw [HE.out, if_neg (by simp [h0])])
  have hs := sizesS_zero.1 (HSZ.out.symm.trans h0)
  dsimp only at hs
  have hn : 0 ≤ cols ∧ cols ≤ 100000 := by omega
  have HN := Lib.hid hn
  clear h0 hs hn
  obtain ⟨q0, q1⟩ := R0.two
  go_wp2
  go_loopw [4, 5] (fun i _ wr => ∃ k : Nat, k ≤ ll.length ∧ i = .int .i64 k ∧ Below w.heap.size w wr ∧ Row wr w.heap.size 24 [.int .i64 cols, .slice a ll.length cap] ∧ Hid (E = firstE (clauseE cols) ll k)) (fun i _ _ => ll.length - (intOf i).toNat)
  case atStart => exact ⟨0, Nat.zero_le _, rfl, hx1, R0, HE⟩
  case round =>
    obtain ⟨k, hk, rfl, hb, hr, hF⟩ := hrel
    obtain ⟨q0, q1⟩ := hr.two
    by_cases hlt : k < ll.length
    · have q := HQ.out k hlt
      obtain ⟨u, cu, iu⟩ := hl.at hb hlt
      have HV := Lib.hid (fun n => refClause_quiet (iu.drewN n) HN.out)
      obtain ⟨ec, hec⟩ : ∃ ec, ec = clauseE cols (nthL ll k) := ⟨_, rfl⟩
      rw [← hec] at HV
      by_cases h1 : ec = 0
      · have e1 : (ec != 0) = false := by simp [h1]
        have HR := Lib.hid (hF.out.trans (firstE_next hlt (hec.symm.trans h1)))
        clear h1 hec
        go_wp2_with fail
        go_quiet ((go_at_call 32; exact quiet_calls (HV.out _)))
        go_wp2
        go_roundw
        case rel => exact ⟨k + 1, by omega, by go_num, ext_drewN hb _, hr.ext (drewN_below _ _ _), HR⟩
        case measure => simp [intOf]; omega
      · have e1 : (ec != 0) = true := by simp [h1]
        have HR := Lib.hid (hF.out.trans (firstE_err hlt hec.symm h1))
        clear h1 hec
        go_wp2_with fail
        go_quiet ((go_at_call 32; exact quiet_calls (HV.out _)))
        go_wp2
        go_ret
        exact .mk (ext_drewN hb _) (int_eq HR.out.symm)
    · have HR := Lib.hid (hF.out.trans (firstE_end (by omega)))
      go_wp2
      go_ret
      exact .mk hb (int_eq HR.out.symm)
end Go.Proofs.Ytifcgcdbebgahaa
