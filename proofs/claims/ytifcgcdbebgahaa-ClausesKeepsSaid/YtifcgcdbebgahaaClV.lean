/- The program's assignment. -/
import Derived.Test.YtifcgcdbebgahaaClU
namespace Go.Proofs.Ytifcgcdbebgahaa
set_option linter.unusedVariables false
open Go.RowKit
attribute [local go_sem ↓] Go.wp_at_zero Go.wp_at_succ

noncomputable def keyI : KeyB Try.prog 3 Int := intKey Try.underlying3
theorem zeroI (W : World) : (zeroValue 3).run Try.prog W = .ok (.int .i64 0) W := by
  kernel_rfl
/-- The values of the variables, as the cells of a map. -/
def litV (l : List Int) (v : Int) : Option Value := (litOf l v).map (Value.int .i64)
theorem litV_get (l : List Int) (v : Int) : (litV l v).getD (.int .i64 0) = .int .i64 (valOf l v) := by
  unfold litV valOf
  cases litOf l v <;> rfl
theorem litV_some (l : List Int) (v : Int) : (litV l v).isSome = (litOf l v).isSome := by unfold litV; cases litOf l v <;> rfl
theorem litV_snoc {l : List Int} {x : Int} (h : litOf l (varP x) = none) : (fun z => if z = varP x then some (.int .i64 x) else litV l z) = litV (l ++ [x]) := by
  funext z
  have : litOf (l ++ [x]) z = if z = varP x then some x else litOf l z := congrFun (litOf_snoc h) z
  unfold litV
  rw [this]
  split <;> rfl
theorem varP_wf {x : Int} (h : 0 ≤ varP x ∧ varP x ≤ 100000) : WF (varP x) := WF.small (by omega)
theorem valOf_zero {l : List Int} {v : Int} (h : litOf l v = none) : valOf l v = 0 := by unfold valOf; rw [h]; rfl
theorem valOf_some {l : List Int} {v y : Int} (h : litOf l v = some y) : valOf l v = y := by unfold valOf; rw [h]; rfl
/-- What assignment returns. -/
def PAssign (base : Nat) (m : Mx) (l : List Int) (w' : World) (r : Value) : Prop :=
  if checkC m ≠ 0 then r = .tuple #[.map none, .int .i64 (checkC m)] else if assignE m.cols l ≠ 0 then r = .tuple #[.map none, .int .i64 (assignE m.cols l)] else ∃ b, base ≤ b ∧ r = .tuple #[.map (some b), .int .i64 0] ∧ MapV keyI w' b (litV l) l.length

set_option maxRecDepth 100000 in
set_option maxHeartbeats 4000000 in
theorem assignment_calls {S S' : Nat → Prop} {w : World} {va vb : Value} {m : Mx} {x : List Int} (ha : MatV S w va m) (hx : Ints S' w vb x) (hxl : x.length ≤ 100000) :
    Calls Try.prog 46 #[va, vb] w (Post w (PAssign w.heap.size m x)) := by
  obtain ⟨cols, ll⟩ := m
  obtain ⟨ra, rfl, la⟩ := ha
  obtain ⟨aa, acap, rfl, aad, al1, alm⟩ := la.form
  obtain ⟨ab, nb, rfl, bd, bl1, blm⟩ := hx.form
  dsimp only at la al1 aad ⊢
  obtain ⟨E, hE⟩ : ∃ E, E = PAssign w.heap.size ⟨cols, ll⟩ x := ⟨_, rfl⟩
  rw [← hE]
  unfold PAssign at hE
  dsimp only at hE
  obtain ⟨c1, hc1⟩ : ∃ c1, c1 = checkC ⟨cols, ll⟩ := ⟨_, rfl⟩
  rw [← hc1] at hE
  have HC1 := Lib.hid hc1.symm
  have ex := ext_alloc w (.cells #[.int .i64 cols, .slice aa ll.length acap] 24)
  have r0 := row_new w [.int .i64 cols, .slice aa ll.length acap] 24
  have KC := Lib.hid (check_calls (v := .agg #[.int .i64 cols, .slice aa ll.length acap]) (m := ⟨cols, ll⟩) ⟨_, rfl, la.ext ex⟩)
  rw [← hc1] at KC
  have HX := Lib.hid hx
  have HEE := Lib.hid hE
  have hmm := @run_makeMap Try.prog
  clear hE hc1 la hx
  go_enter Try.func46, Try.ntmps46
  go_wp2_with fail
  refine KC.out.mono ?_
  rintro _ w1 ⟨_, rfl, hb1, rfl⟩
  have hx1 := ext_trans ex hb1
  have R0 := r0.ext hb1
  clear KC r0 ex hb1
  by_cases h1 : ¬ c1 = 0
  · have e1 : (c1 != 0) = true := by simp [h1]
    have R : Hid (∀ W, E W (.tuple #[.map none, .int .i64 c1])) := Lib.hid (fun W => by rw [HEE.out]; show (if _ then _ else _); rw [if_pos h1])
    clear h1
    go_wp2
    refine bodyPost_ret (v := .tuple #[.map none, .int .i64 c1]) (by simp [results, Try.results46, go_sem]) rfl ?_
    exact .mk hx1 (R.out _)
  have h1 := Classical.not_not.1 h1
  have e1 : (c1 != 0) = false := by simp [h1]
  have OK := Lib.hid (checkC_ok.1 (HC1.out.trans h1))
  have HE1 : Hid (assignE cols x ≠ 0 → ∀ W, E W (.tuple #[.map none, .int .i64 (assignE cols x)])) := Lib.hid (fun h W => by rw [HEE.out]; show (if _ then _ else _); rw [if_neg (by simp [h1]), if_pos h])
  have HE2 : Hid (assignE cols x = 0 → ∀ W b, w.heap.size ≤ b → MapV keyI W b (litV x) x.length → E W (.tuple #[.map (some b), .int .i64 0])) := Lib.hid (fun h W b hb hm => by rw [HEE.out]; show (if _ then _ else _); rw [if_neg (by simp [h1]), if_neg (by simp [h])]; exact ⟨b, hb, rfl, hm⟩)
  have hcl : 0 ≤ cols ∧ cols ≤ 4096 := ⟨OK.out.c0, OK.out.c1⟩
  obtain ⟨q0, q1⟩ := R0.two
  have hs1 := hx1.size
  obtain ⟨i0, hi, hz0, hz1, hz2⟩ := info_parts info_int
  have HQ := Lib.hid (idx_one Try.underlying25 hi hz1 bd)
  have HC := Lib.hid (ints_cells0 HX.out)
  have HAF : Hid (assignE cols x = afrom cols x 0) := Lib.hid rfl
  have HWF := Lib.hid HX.out.wf
  obtain ⟨B, hB⟩ : ∃ B, B = w1.heap.size := ⟨_, rfl⟩
  have hxm := ext_alloc' hx1 (.map #[] 0)
  have R1 := R0.alloc (.map #[] 0)
  have hM0 : MapV keyI (w1.alloc (.map #[] 0)) B (litV (x.take 0)) 0 := by rw [hB]; exact MapV.made keyI w1
  have hBw : w.heap.size < B := by have := R0.lt; omega
  have HB := Lib.hid hB
  clear h1 hi hz0 hz1 hz2 hB
  go_wp2
  rw [← HB.out]
  go_loopw [19] (fun i wr => ∃ k : Nat, k ≤ x.length ∧ i = .int .i64 k ∧ Below w.heap.size w wr ∧ Row wr w.heap.size 24 [.int .i64 cols, .slice aa ll.length acap] ∧ MapV keyI wr B (litV (x.take k)) k ∧ Hid (assignE cols x = afrom cols x k) ∧ Hid (∀ z ∈ x.take k, goodP cols z = true)) (fun i _ => x.length - (intOf i).toNat)
  case atStart => exact ⟨0, Nat.zero_le _, rfl, hxm, R1, hM0, HAF, Lib.hid fun z hz => by simp at hz⟩
  case round =>
    obtain ⟨k, hk, rfl, hb, hr0, hM, hF, hG⟩ := hrel
    clear q0 q1 R0 R1 hx1 hxm hM0
    obtain ⟨q0, q1⟩ := hr0.two
    by_cases hlt : k < x.length
    · have q := HQ.out k hlt
      have cx := cells_at bd hb HC.out k hlt
      have hwx : WF (nth x k) := HWF.out _ (nth_mem hlt)
      have HTK := Lib.hid (take_nth hlt)
      have HST := Lib.hid (fun e (he : astep cols x k = e) (h0 : e ≠ 0) => hF.out.trans (afrom_err hlt he h0))
      have HNX := Lib.hid (fun (he : astep cols x k = 0) => hF.out.trans (afrom_next hlt he))
      obtain ⟨y, hy⟩ : ∃ y, y = nth x k := ⟨_, rfl⟩
      rw [← hy] at cx hwx HTK
      have HY := Lib.hid hy
      have HIF := Lib.hid (varP_iff (n := cols) (by omega) hwx)
      clear hy hwx hF
      go_wp2_with fail
      refine ((variable_quiet _ _).mono fun _ _ h => h.take).mono ?_
      rintro _ w2 ⟨_, rfl, hq2, rfl⟩
      have hb2 := ext_trans hb hq2.ext
      have hr2 := hr0.ext hq2.ext
      have hM2 := hM.ext hq2.ext
      clear cx hb hr0 hM hq2 q0 q1
      obtain ⟨q0, q1⟩ := hr2.two
      obtain ⟨v, hv⟩ : ∃ v, v = varP y := ⟨_, rfl⟩
      rw [← hv] at HIF ⊢
      have HV := Lib.hid hv
      clear hv
      by_cases h1 : v < 1
      · have e0 := Lib.hid (HST.out 2 (astep_bad HY.out (by cases e : goodP cols y with
          | false => rfl
          | true => exact absurd (.inl h1) (HIF.out.1 e))) (by omega))
        have R : Hid (∀ W, E W (.tuple #[.map none, .int .i64 2])) := Lib.hid (fun W => by have := HE1.out (by rw [e0.out]; omega) W; rwa [e0.out] at this)
        go_wp2
        refine bodyPost_ret (v := .tuple #[.map none, .int .i64 2]) (by simp [results, Try.results46, go_sem]) rfl ?_
        exact .mk hb2 (R.out _)
      by_cases h2 : cols < v
      · have e0 := Lib.hid (HST.out 2 (astep_bad HY.out (by cases e : goodP cols y with
          | false => rfl
          | true => exact absurd (.inr h2) (HIF.out.1 e))) (by omega))
        have R : Hid (∀ W, E W (.tuple #[.map none, .int .i64 2])) := Lib.hid (fun W => by have := HE1.out (by rw [e0.out]; omega) W; rwa [e0.out] at this)
        go_wp2
        refine bodyPost_ret (v := .tuple #[.map none, .int .i64 2]) (by simp [results, Try.results46, go_sem]) rfl ?_
        exact .mk hb2 (R.out _)
      have HGX : Hid (goodP cols y = true) := Lib.hid (HIF.out.2 (by omega))
      have hwv : WF v := WF.small (by omega)
      have hz : litOf (x.take k) v = none ∨ ∃ z, litOf (x.take k) v = some z ∧ z ≠ 0 := by
        cases e : litOf (x.take k) v with
        | none => exact .inl rfl
        | some z => exact .inr ⟨z, rfl, (goodP_iff.1 (hG.out z (litOf_some e).1)).1⟩
      have hkm : k < maxLen := by unfold maxLen; omega
      rcases hz with hz | ⟨z, hz, hz0⟩
      · have HZ := Lib.hid (litV_get (x.take k) v)
        rw [valOf_zero hz] at HZ
        have HS := Lib.hid (litV_some (x.take k) v)
        rw [hz] at HS
        have HAS := Lib.hid (HNX.out (astep_once (by omega) hlt HY.out HGX.out hG.out (by rw [← HV.out]; exact hz)))
        have HLV := Lib.hid (litV_snoc (l := x.take k) (x := y) (by rw [← HV.out]; exact hz))
        rw [← HV.out] at HLV
        have HG2 : Hid (∀ z ∈ x.take (k + 1), goodP cols z = true) := Lib.hid (fun z hz => by
          rw [HTK.out] at hz
          rcases List.mem_append.1 hz with h | h
          · exact hG.out z h
          · rw [List.mem_singleton.1 h]; exact HGX.out)
        clear hz hG
        go_wp2_with (first
          | (at_lookup; refine wpList_get rfl _ _ 72 rfl 3 Try.underlying72 (.int .i64 0) (zeroI _) rfl hM2 v rfl hwv (.int .i64 0) HZ.out ?_)
          | (at_mapUpdate; refine wpList_upd rfl _ _ _ 72 rfl 3 Try.underlying72 rfl hM2 hkm v rfl hwv (.int .i64 y) rfl ?_; intro w3 hM3 hg3))
        rw [HS.out, if_neg (by simp), HLV.out, ← HTK.out] at hM3
        have hb3 := hb2.grown hg3 (by have := hb2.size; omega) (fun j hj => by cases hj; omega)
        have hr3 := hr2.grown hg3 (by simp; omega)
        go_wp2
        go_roundw
        case rel => exact ⟨k + 1, by omega, by go_num, hb3, hr3, hM3, HAS, HG2⟩
        case measure => simp [intOf]; omega
      · have HZ := Lib.hid (litV_get (x.take k) v)
        rw [valOf_some hz] at HZ
        have e0 := Lib.hid (HST.out 7 (astep_twice (by omega) hlt HY.out HGX.out hG.out (by rw [← HV.out]; exact hz)) (by omega))
        have R : Hid (∀ W, E W (.tuple #[.map none, .int .i64 7])) := Lib.hid (fun W => by have := HE1.out (by rw [e0.out]; omega) W; rwa [e0.out] at this)
        have hz1 : (z != 0) = true := by simp [hz0]
        clear hz hz0
        go_wp2_with (at_lookup; refine wpList_get rfl _ _ 72 rfl 3 Try.underlying72 (.int .i64 0) (zeroI _) rfl hM2 v rfl hwv (.int .i64 z) HZ.out ?_)
        refine bodyPost_ret (v := .tuple #[.map none, .int .i64 7]) (by simp [results, Try.results46, go_sem]) rfl ?_
        exact .mk hb2 (R.out _)
    · obtain rfl : k = x.length := by omega
      rw [List.take_length] at hM
      have R := Lib.hid (HE2.out (hF.out.trans (afrom_end (by omega))) wr B (by omega) hM)
      clear hF hG hM
      go_wp2
      refine bodyPost_ret (v := .tuple #[.map (some B), .int .i64 0]) (by simp [results, Try.results46, go_sem]) rfl ?_
      exact .mk hb R.out
end Go.Proofs.Ytifcgcdbebgahaa
