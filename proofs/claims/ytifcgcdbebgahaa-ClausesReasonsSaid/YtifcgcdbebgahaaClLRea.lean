/- The walk of ClausesReasons. Printed by law41.py. -/
import Derived.Test.YtifcgcdbebgahaaClLaw2
namespace Go.Proofs.Ytifcgcdbebgahaa
set_option linter.unusedVariables false
open Go.RowKit
attribute [local go_sem ↓] Go.wp_at_zero Go.wp_at_succ

theorem lit_at1 {W : World} {B : Nat} {e : TypeId} {y : Int} (h : Row W B e [.int .i64 y]) (hy : WF y) : Ints TT W (.slice (some ⟨B, 0, none⟩) 1 1) [y] :=
  (Row.ints (l := [y]) h (by simp [maxLen]) (fun x hx => by rw [List.mem_singleton.1 hx]; exact hy)).mono fun _ _ => trivial

set_option maxRecDepth 100000 in
set_option maxHeartbeats 8000000 in
theorem walkClausesReasons {w : World} {vm : Value} {m : Mx} (hm : MatV TT w vm m) {vx : Value} {x : List Int} (hx : Ints TT w vx x) :
    Calls Try.prog 6 #[vm, vx] w (Post w fun _ r => r = .bool true) := by
  obtain ⟨cols, ll⟩ := m
  obtain ⟨rm, rfl, la⟩ := hm
  obtain ⟨aa, acap, rfl, _⟩ := la.form
  dsimp only at la ⊢
  have hm : MatV TT w (.agg #[.int .i64 cols, .slice aa ll.length acap]) ⟨cols, ll⟩ := ⟨_, rfl, la⟩
  clear la
  obtain ⟨ax, cx, rfl, _⟩ := hx.form
  have HB := Below.refl w.heap.size w
  go_enter Try.func6, Try.ntmps6
  go_wp2_with fail
  refine (few_calls (S := TT) (S' := TT) (ls := [x]) (hm.ext (by (repeat (first | exact Below.refl _ _ | refine ext_alloc' ?_ _)))) ?_).mono ?_
  · refine lits_at (e := 25) (ll := [x]) (vs := [.slice ax x.length cx]) ?_ (by simp) (show Ints TT _ _ _ ∧ True from ⟨hx.ext (by (repeat (first | exact Below.refl _ _ | refine ext_alloc' ?_ _))), trivial⟩)
    repeat (first | exact row_at _ _ _ _ (by simp) | refine Row.alloc ?_ _)
  rintro _ w1 ⟨_, rfl, hb, rfl⟩
  have hYY := ext_trans (by (repeat (first | exact Below.refl _ _ | refine ext_alloc' ?_ _)) : Below w.heap.size w _) hb
  have R1 : Row w1 (w.heap.size) 24 [.int .i64 cols, .slice aa ll.length acap] := Row.ext (by repeat (first | exact row_at _ _ _ _ (by simp) | refine Row.alloc ?_ _)) hb
  replace hm := hm.ext hYY
  replace hx := hx.ext hYY
  replace HB := ext_trans HB hYY
  clear hYY hb
  cases hf : fewL ⟨cols, ll⟩ [x] with
  | false =>
    clear hf
    obtain ⟨R1q0, R1q1⟩ := R1.two
    have R1l := R1.lt
    go_wp2_with fail
    refine (awake_calls _).mono ?_
    rintro _ w2 ⟨_, rfl, hb, rfl⟩
    have hYY := ext_trans (by (repeat (first | exact Below.refl _ _ | refine ext_alloc' ?_ _)) : Below w1.heap.size w1 _) hb
    replace hm := hm.ext hYY
    replace hx := hx.ext hYY
    replace R1 := R1.ext hYY
    replace HB := ext_trans HB hYY
    clear R1q0 R1q1 R1l hYY hb
    go_wp2
    go_ret
    exact .mk HB rfl
  | true =>
  obtain ⟨hfl, hfc⟩ := fewL_true hf
  have hxl : x.length ≤ 40 := hfl x (by simp)
  have HFC := Lib.hid hfc
  clear hf hfl hfc
  obtain ⟨c1, hc1⟩ : ∃ c1, c1 = checkC ⟨cols, ll⟩ := ⟨_, rfl⟩
  obtain ⟨c2, hc2⟩ : ∃ c2, c2 = assignE cols x := ⟨_, rfl⟩
  have HC1 := Lib.hid hc1.symm
  have HC2 := Lib.hid hc2.symm
  clear hc1 hc2
  obtain ⟨R1q0, R1q1⟩ := R1.two
  have R1l := R1.lt
  go_wp2_with fail
  refine (rcheck_lit (hm.ext (by (repeat (first | exact Below.refl _ _ | refine ext_alloc' ?_ _))))).mono ?_
  rintro _ w2 ⟨_, rfl, hb, rfl⟩
  have hYY := ext_trans (by (repeat (first | exact Below.refl _ _ | refine ext_alloc' ?_ _)) : Below w1.heap.size w1 _) hb
  replace hm := hm.ext hYY
  replace hx := hx.ext hYY
  replace R1 := R1.ext hYY
  replace HB := ext_trans HB hYY
  clear R1q0 R1q1 R1l hYY hb
  rw [HC1.out]
  by_cases h1 : ¬ c1 = 0
  ·
    have e1 : (c1 != 0) = true := by simp [h1]
    clear h1
    obtain ⟨R1q0, R1q1⟩ := R1.two
    have R1l := R1.lt
    go_wp2_with fail
    refine (awake_calls _).mono ?_
    rintro _ w3 ⟨_, rfl, hb, rfl⟩
    have hYY := ext_trans (by (repeat (first | exact Below.refl _ _ | refine ext_alloc' ?_ _)) : Below w2.heap.size w2 _) hb
    replace hm := hm.ext hYY
    replace hx := hx.ext hYY
    replace R1 := R1.ext hYY
    replace HB := ext_trans HB hYY
    clear R1q0 R1q1 R1l hYY hb
    go_wp2
    go_ret
    exact .mk HB rfl
  have h1 := Classical.not_not.1 h1
  have e1 : (c1 != 0) = false := by simp [h1]
  have G1 : Hid (COk ⟨cols, ll⟩) := Lib.hid (checkC_ok.1 (HC1.out.trans h1))
  clear h1
  have hcz : 0 ≤ cols := G1.out.c0
  have hcs := (fewC_true HFC.out (checkC_zero (checkC_ok.2 G1.out))).2.1
  have hcs : cols ≤ 14 := hcs
  have HGD : Hid (∀ r ∈ ll, ∀ y ∈ r, goodP cols y = true) := Lib.hid G1.out.good
  obtain ⟨R1q0, R1q1⟩ := R1.two
  have R1l := R1.lt
  go_wp2_with fail
  refine (rassignment_calls (n := cols) (hx.ext (by (repeat (first | exact Below.refl _ _ | refine ext_alloc' ?_ _)))) ⟨hcz, by omega⟩).mono ?_
  rintro _ w3 ⟨_, rfl, hb, rfl⟩
  have hYY := ext_trans (by (repeat (first | exact Below.refl _ _ | refine ext_alloc' ?_ _)) : Below w2.heap.size w2 _) hb
  replace hm := hm.ext hYY
  replace hx := hx.ext hYY
  replace R1 := R1.ext hYY
  replace HB := ext_trans HB hYY
  clear R1q0 R1q1 R1l hYY hb
  rw [HC2.out]
  by_cases h2 : ¬ c2 = 0
  ·
    have e2 : (c2 != 0) = true := by simp [h2]
    clear h2
    obtain ⟨R1q0, R1q1⟩ := R1.two
    have R1l := R1.lt
    go_wp2_with fail
    refine (awake_calls _).mono ?_
    rintro _ w4 ⟨_, rfl, hb, rfl⟩
    have hYY := ext_trans (by (repeat (first | exact Below.refl _ _ | refine ext_alloc' ?_ _)) : Below w3.heap.size w3 _) hb
    replace hm := hm.ext hYY
    replace hx := hx.ext hYY
    replace R1 := R1.ext hYY
    replace HB := ext_trans HB hYY
    clear R1q0 R1q1 R1l hYY hb
    go_wp2
    go_ret
    exact .mk HB rfl
  have h2 := Classical.not_not.1 h2
  have e2 : (c2 != 0) = false := by simp [h2]
  have G2 : Hid (AOK cols x) := Lib.hid ((assignE_ok (by omega)).1 (HC2.out.trans h2))
  clear h2
  have HPS := Lib.hid (propS_ok (m := ⟨cols, ll⟩) (x := x) (checkC_ok.2 G1.out) ((assignE_ok (n := cols) (by omega)).2 G2.out))
  obtain ⟨l, rs, c, hU, hRS, hor⟩ := units_reasons (n := cols) (l := ll) (x := x) (by omega) HGD.out G2.out
  have HPP : Hid (propS ⟨cols, ll⟩ x = (((l, rs), c), 0)) := Lib.hid (by rw [HPS.out]; exact congrArg (fun z => (z, (0 : Int))) hU)
  obtain ⟨n, hn⟩ : ∃ n, n = l.length := ⟨_, rfl⟩
  have HN := Lib.hid hn
  have HNR : Hid (n = rs.length) := Lib.hid (by rw [hn]; exact hRS.len.symm)
  have hnx : x.length ≤ n := by rw [hn]; exact hRS.low
  have HRS := Lib.hid hRS
  have HOR := Lib.hid hor
  have HAL : Hid (assignE cols l = 0) := Lib.hid ((assignE_ok (by omega)).2 hRS.ok)
  clear hU hRS hor hn HPS
  obtain ⟨R1q0, R1q1⟩ := R1.two
  have R1l := R1.lt
  go_wp2_with fail
  refine (prop_lit (n := n) (k := n) (hm.ext (by (repeat (first | exact Below.refl _ _ | refine ext_alloc' ?_ _)))) (hx.ext (by (repeat (first | exact Below.refl _ _ | refine ext_alloc' ?_ _)))) (by omega) HPP.out HN.out HNR.out).mono ?_
  rintro _ w4 ⟨_, rfl, hb, a3, k3, b3, d3, rfl, h3, g3⟩
  have hYY := ext_trans (by (repeat (first | exact Below.refl _ _ | refine ext_alloc' ?_ _)) : Below w3.heap.size w3 _) hb
  replace hm := hm.ext hYY
  replace hx := hx.ext hYY
  replace R1 := R1.ext hYY
  replace HB := ext_trans HB hYY
  clear R1q0 R1q1 R1l hYY hb
  have hnb : n ≤ 9223372036854775807 := by have := h3.len; rw [← HN.out] at this; unfold maxLen at this; omega
  have hk3 : n ≤ k3 := by
    obtain ⟨a0, cap0, e0, ad0, al0, am0, _⟩ := h3
    simp only [Value.slice.injEq] at e0
    obtain ⟨_, e1, e2⟩ := e0
    omega
  obtain ⟨R1q0, R1q1⟩ := R1.two
  have R1l := R1.lt
  go_wp2_with fail
  refine (rassignment_calls (n := cols) (h3.ext (by (repeat (first | exact Below.refl _ _ | refine ext_alloc' ?_ _)))) ⟨hcz, by omega⟩).mono ?_
  rintro _ w5 ⟨_, rfl, hb, rfl⟩
  have hYY := ext_trans (by (repeat (first | exact Below.refl _ _ | refine ext_alloc' ?_ _)) : Below w4.heap.size w4 _) hb
  replace hm := hm.ext hYY
  replace hx := hx.ext hYY
  replace h3 := h3.ext hYY
  replace g3 := g3.ext hYY
  replace R1 := R1.ext hYY
  replace HB := ext_trans HB hYY
  clear R1q0 R1q1 R1l hYY hb
  rw [HAL.out]
  obtain ⟨i0, hi, hz0, hz1, hz2⟩ := info_parts info_int
  obtain ⟨j0, hj0, hy0, hy1, hy2⟩ := info_parts info_ints
  have HQR := Lib.hid (idx_one Try.underlying25 hi hz1 (ints_ad g3))
  have HQL := Lib.hid (idx_one Try.underlying25 hi hz1 (ints_ad h3))
  rw [← HNR.out] at HQR
  rw [← HN.out] at HQL
  have HLL : Hid (Lists TT w5 (.slice aa ll.length acap) ll) := Lib.hid (by obtain ⟨rv, e, h⟩ := hm; simp only [Value.agg.injEq] at e; cases e; exact h)
  obtain ⟨aq, bq, eq, adq, _, _⟩ := HLL.out.form
  simp only [Value.slice.injEq, true_and] at eq
  obtain ⟨rfl, rfl⟩ := eq
  have HQA := Lib.hid (idx_one Try.underlying22 hj0 hy1 adq)
  have hE : Try.prog.elem 25 = 3 := by simp [Program.elem, Try.underlying25]
  have HSL : Hid (∀ (k : Nat), k ≤ n → ∀ W : World, (Instr.slice 25 (.slice a3 n k3) none (some (.int .i64 k)) none).run Try.prog W = .ok (.slice a3 k k3) W) := Lib.hid (fun k hk W => by
    rw [run_slice_h (w := W) _ _ _ _ (by rw [hE]; exact Try.underlying25) .i64 k (by omega) (by omega), hE]
    cases a3 with
    | none => simp [sizeOf, typeInfo, hi, hz1, Result.andThen, sliced]
    | some q => simp [sizeOf, typeInfo, hi, hz1, Result.andThen, sliced, Addr.add])
  have hlln : ll.length ≤ 32768 := G1.out.r1
  have HF := Lib.hid (And.intro hm (And.intro h3 (And.intro g3 R1)))
  clear hi hz0 hz1 hz2 hj0 hy0 hy1 hy2 hE hm hx h3 g3 R1 adq hk3 e1 e2
  go_wp2
  go_loopw [57] (fun i wr => ∃ k : Nat, k ≤ n ∧ i = .int .i64 k ∧ Below w.heap.size w wr ∧ Below w5.heap.size w5 wr) (fun i _ => n - (intOf i).toNat)
  case atStart => exact ⟨0, Nat.zero_le _, rfl, HB, .refl _ _⟩
  case round =>
    clear HB
    obtain ⟨k, hk, rfl, HB, HBL⟩ := hrel
    obtain ⟨hm, h3, g3, R1⟩ := HF.out
    replace hm := hm.ext HBL
    replace h3 := h3.ext HBL
    replace g3 := g3.ext HBL
    replace R1 := R1.ext HBL
    obtain ⟨q0, q1⟩ := R1.two
    have hR1l := R1.lt
    by_cases hlt : k < n
    ·
      have q := HQR.out k hlt
      have hkr : k < rs.length := by rw [← HNR.out]; exact hlt
      have hkl : k < l.length := by rw [← HN.out]; exact hlt
      have cr := ints_cells0 g3 k hkr
      by_cases hkx : k < x.length
      ·
        rw [HRS.out.first k hkx] at cr
        have d1 : decide (k < x.length) = true := decide_eq_true hkx
        have d2 : decide ((ll.length : Int) ≤ -1) = false := decide_eq_false (by omega)
        clear h3 g3 hm hkr hkl
        go_wp2
        go_quiet (fail)
        go_wp2
        go_roundw
        case rel => exact ⟨k + 1, by omega, by go_num, ext_drewN HB nq, ext_drewN HBL nq⟩
        case measure => simp [intOf]; omega
      ·
        obtain ⟨j, hj1, hj2, hj3⟩ := HRS.out.later k (by omega) hkl
        rw [hj1] at cr
        have d1 : decide (k < x.length) = false := decide_eq_false hkx
        have d2 : decide (ll.length ≤ j) = false := decide_eq_false (by omega)
        have qj := HQA.out j hj2
        obtain ⟨u, cu, iu⟩ := HLL.out.at HBL hj2
        have ql := HQL.out k hlt
        have cl := ints_cells0 h3 k hkl
        have hsk := HSL.out k (by omega)
        have h3t := h3.take (show k ≤ l.length by omega)
        have hwy : WF (nth l k) := h3.wf _ (nth_mem hkl)
        have hul : (nthL ll j).length ≤ 4096 := G1.out.len (m := ⟨cols, ll⟩) (nthL_mem hj2)
        obtain ⟨y, hy⟩ : ∃ y, y = nth l k := ⟨_, rfl⟩
        rw [← hy] at cl hwy hj3
        obtain ⟨au, ku, rfl, _⟩ := iu.form
        have KW := Lib.hid (fun W (hW : Below wr.heap.size wr W) => (rwithout_calls (iu.ext hW) (h3t.ext hW) (by omega)))
        rw [hj3] at KW
        obtain ⟨un, hun⟩ : ∃ un, un = (nthL ll j).length := ⟨_, rfl⟩
        obtain ⟨u, hu⟩ : ∃ u, u = Value.slice au (nthL ll j).length ku := ⟨_, rfl⟩
        rw [← hu] at cu KW
        have htk : (l.take k).length = k := by rw [List.length_take]; omega
        clear hu
        have KEEP : Hid (∀ W', Below wr.heap.size wr W' → (fun w' : World => w'.cell? ⟨w.heap.size, 0, none⟩ = some (.int .i64 cols) ∧ w'.cell? ⟨w.heap.size, 1, none⟩ = some (.slice aa ll.length acap) ∧ w'.cell? (adr aa j) = some u ∧ w'.cell? (adr a3 k) = some (.int .i64 y)) W') := Lib.hid (fun W' hW' => ⟨cell_ext q0 hW', cell_ext q1 hW', cell_ext cu hW', cell_ext cl hW'⟩)
        clear h3 g3 hm hkr hkl hj1 hj3 iu h3t hul hy htk hun
        go_wp2
        refine region_E (fun w' : World => w'.cell? ⟨w.heap.size, 0, none⟩ = some (.int .i64 cols) ∧ w'.cell? ⟨w.heap.size, 1, none⟩ = some (.slice aa ll.length acap) ∧ w'.cell? (adr aa j) = some u ∧ w'.cell? (adr a3 k) = some (.int .i64 y)) (fun i => false) (by kernel_rfl) ?_ (fun hHeld => ?_)
        · exact KEEP.out _ (drewN_below _ _ 1)
        refine anyE_take 0 (v := ?_) rfl (by kernel_rfl) (fun _ _ _ h => h) (by rfl) ?hy0 hHeld ?rest0
        case hy0 => (intro w hSw; (try dsimp only at hSw); go_simp; try with_reducible rfl)
        try simp only [Act.put, List.setIfInBounds_toArray, List.set_cons_zero, List.set_cons_succ]
        refine anyE_take 1 (v := ?_) rfl (by kernel_rfl) (fun _ _ _ h => h) (by rfl) ?hy1 hHeld ?rest1
        case hy1 => (intro w hSw; (try dsimp only at hSw); go_simp; try with_reducible rfl)
        try simp only [Act.put, List.setIfInBounds_toArray, List.set_cons_zero, List.set_cons_succ]
        refine anyE_take 2 (v := ?_) rfl (by kernel_rfl) (fun _ _ _ h => h) (by rfl) ?hy2 hHeld ?rest2
        case hy2 => (intro w hSw; (try dsimp only at hSw); go_simp; try with_reducible rfl)
        try simp only [Act.put, List.setIfInBounds_toArray, List.set_cons_zero, List.set_cons_succ]
        refine anyE_take 3 (v := ?_) rfl (by kernel_rfl) (fun _ _ _ h => h) (by rfl) ?hy3 hHeld ?rest3
        case hy3 => (intro w hSw; (try dsimp only at hSw); go_simp; try with_reducible rfl)
        try simp only [Act.put, List.setIfInBounds_toArray, List.set_cons_zero, List.set_cons_succ]
        refine anyE_take 4 (v := ?_) rfl (by kernel_rfl) (fun _ _ _ h => h) (by rfl) ?hy4 hHeld ?rest4
        case hy4 => (intro w hSw; (try dsimp only at hSw); go_simp; try with_reducible rfl)
        try simp only [Act.put, List.setIfInBounds_toArray, List.set_cons_zero, List.set_cons_succ]
        refine anyE_take 5 (v := ?_) rfl (by kernel_rfl) (fun _ _ _ h => h) (by rfl) ?hy5 hHeld ?rest5
        case hy5 => (intro w hSw; (try dsimp only at hSw); go_simp; try with_reducible rfl)
        try simp only [Act.put, List.setIfInBounds_toArray, List.set_cons_zero, List.set_cons_succ]
        refine anyE_take 6 (v := ?_) rfl (by kernel_rfl) (fun _ _ _ h => h) (by rfl) ?hy6 hHeld ?rest6
        case hy6 => (intro w hSw; (try dsimp only at hSw); go_simp; try with_reducible rfl)
        try simp only [Act.put, List.setIfInBounds_toArray, List.set_cons_zero, List.set_cons_succ]
        refine anyE_take 7 (v := ?_) rfl (by kernel_rfl) (fun _ _ _ h => h) (by rfl) ?hy7 hHeld ?rest7
        case hy7 => (intro w hSw; (try dsimp only at hSw); go_simp; try with_reducible rfl)
        try simp only [Act.put, List.setIfInBounds_toArray, List.set_cons_zero, List.set_cons_succ]
        refine anyE_take 8 (v := ?_) rfl (by kernel_rfl) (fun _ _ _ h => h) (by rfl) ?hy8 hHeld ?rest8
        case hy8 => (intro w hSw; (try dsimp only at hSw); go_simp; try with_reducible rfl)
        try simp only [Act.put, List.setIfInBounds_toArray, List.set_cons_zero, List.set_cons_succ]
        refine anyE_take 9 (v := ?_) rfl (by kernel_rfl) (fun _ _ _ h => h) (by rfl) ?hy9 hHeld ?rest9
        case hy9 => (intro w hSw; (try dsimp only at hSw); go_simp; try with_reducible rfl)
        try simp only [Act.put, List.setIfInBounds_toArray, List.set_cons_zero, List.set_cons_succ]
        refine anyE_take 10 (v := ?_) rfl (by kernel_rfl) (fun _ _ _ h => h) (by rfl) ?hy10 hHeld ?rest10
        case hy10 => (intro w hSw; (try dsimp only at hSw); go_simp; try with_reducible rfl)
        try simp only [Act.put, List.setIfInBounds_toArray, List.set_cons_zero, List.set_cons_succ]
        refine anyE_take 12 (v := ?_) rfl (by kernel_rfl) (fun _ _ _ h => h) (by rfl) ?hy12 hHeld ?rest12
        case hy12 => (intro w hSw; (try dsimp only at hSw); go_simp; try with_reducible rfl)
        try simp only [Act.put, List.setIfInBounds_toArray, List.set_cons_zero, List.set_cons_succ]
        refine anyE_take 13 (v := ?_) rfl (by kernel_rfl) (fun _ _ _ h => h) (by rfl) ?hy13 hHeld ?rest13
        case hy13 => (intro w hSw; (try dsimp only at hSw); go_simp; try with_reducible rfl)
        try simp only [Act.put, List.setIfInBounds_toArray, List.set_cons_zero, List.set_cons_succ]
        refine anyE_take 14 (v := ?_) rfl (by kernel_rfl) (fun _ _ _ h => h) (by rfl) ?hy14 hHeld ?rest14
        case hy14 => (intro w hSw; (try dsimp only at hSw); go_simp; try with_reducible rfl)
        try simp only [Act.put, List.setIfInBounds_toArray, List.set_cons_zero, List.set_cons_succ]
        refine anyE_take 15 (v := ?_) rfl (by kernel_rfl) (fun _ _ _ h => h) (by rfl) ?hy15 hHeld ?rest15
        case hy15 => (intro w hSw; (try dsimp only at hSw); go_simp; try with_reducible rfl)
        try simp only [Act.put, List.setIfInBounds_toArray, List.set_cons_zero, List.set_cons_succ]
        refine anyE_two 11 16 rfl rfl (by kernel_rfl) (fun K hK => ?way1) (fun K hK => ?way2)
        case way1 =>
          go_simp; go_at_call 26; refine (KW.out _ (drewN_below _ _ 1)).mono ?_; rintro _ w5 ⟨_, rfl, hb5, a5, k5, rfl, h5⟩; have hb0 : Below wr.heap.size wr w5 := ext_trans (drewN_below _ _ 1) hb5
          refine hK.out _ _ (fun _ => KEEP.out _ (hb0)) (fun hHeld => ?_); replace hHeld := hHeld rfl
          clear hK K
          try simp only [Act.put, List.setIfInBounds_toArray, List.set_cons_zero, List.set_cons_succ]
          refine anyE_one 16 rfl (by kernel_rfl) (fun K hK => ?_)
          go_simp
          refine hK.out _ _ (fun _ => KEEP.out _ (ext_alloc' hb0 _)) (fun hHeld => ?_); replace hHeld := hHeld rfl
          clear hK K
          try simp only [Act.put, List.setIfInBounds_toArray, List.set_cons_zero, List.set_cons_succ]
          refine anyE_one 17 rfl (by kernel_rfl) (fun K hK => ?_)
          go_simp; go_at_call 20; refine (equal_lit (a := [y]) (b := [y]) (h5.ext (ext_alloc _ _)) (lit_at1 (row_at _ [.int .i64 y] _ _ (by simp)) hwy) rfl).mono ?_; rintro _ w6 ⟨_, rfl, hb6, rfl⟩; have hbb : Below wr.heap.size wr w6 := ext_trans (ext_alloc' hb0 _) hb6
          refine hK.out _ _ (fun _ => KEEP.out _ (hbb)) (fun hHeld => ?_); replace hHeld := hHeld rfl
          clear hK K
          try simp only [Act.put, List.setIfInBounds_toArray, List.set_cons_zero, List.set_cons_succ]
          refine anyE_take 18 (v := ?_) rfl (by kernel_rfl) (fun _ _ _ h => h) (by rfl) ?hz18a hHeld ?res18a
          case hz18a => (intro w hSw; (try dsimp only at hSw); go_simp; try with_reducible rfl)
          try simp only [Act.put, List.setIfInBounds_toArray, List.set_cons_zero, List.set_cons_succ]
          refine anyE_take 19 (v := ?_) rfl (by kernel_rfl) (fun _ _ _ h => h) (by rfl) ?hz19a hHeld ?res19a
          case hz19a => (intro w hSw; (try dsimp only at hSw); go_simp; try with_reducible rfl)
          try simp only [Act.put, List.setIfInBounds_toArray, List.set_cons_zero, List.set_cons_succ]
          refine anyE_done (by kernel_rfl) ?_ _
          replace HB := ext_trans HB hbb
          replace HBL := ext_trans HBL hbb
          clear hHeld
          go_wp2
          go_roundw
          case rel => exact ⟨k + 1, by omega, by go_num, HB, HBL⟩
          case measure => simp [intOf]; omega
        case way2 =>
          go_simp
          refine hK.out _ _ (fun _ => KEEP.out _ (ext_alloc' (drewN_below _ _ 1) _)) (fun hHeld => ?_); replace hHeld := hHeld rfl
          clear hK K
          try simp only [Act.put, List.setIfInBounds_toArray, List.set_cons_zero, List.set_cons_succ]
          refine anyE_one 11 rfl (by kernel_rfl) (fun K hK => ?_)
          go_simp; go_at_call 26; refine (KW.out _ (ext_alloc' (drewN_below _ _ 1) _)).mono ?_; rintro _ w5 ⟨_, rfl, hb5, a5, k5, rfl, h5⟩; have hb0 : Below wr.heap.size wr w5 := ext_trans (ext_alloc' (drewN_below _ _ 1) _) hb5; have l5 := (lit_at1 (row_at wr.drew [.int .i64 y] 3 _ rfl) hwy).ext hb5
          refine hK.out _ _ (fun _ => KEEP.out _ (hb0)) (fun hHeld => ?_); replace hHeld := hHeld rfl
          clear hK K
          try simp only [Act.put, List.setIfInBounds_toArray, List.set_cons_zero, List.set_cons_succ]
          refine anyE_one 17 rfl (by kernel_rfl) (fun K hK => ?_)
          go_simp; go_at_call 20; refine (equal_lit (a := [y]) (b := [y]) h5 l5 rfl).mono ?_; rintro _ w6 ⟨_, rfl, hb6, rfl⟩; have hbb : Below wr.heap.size wr w6 := ext_trans hb0 hb6
          refine hK.out _ _ (fun _ => KEEP.out _ (hbb)) (fun hHeld => ?_); replace hHeld := hHeld rfl
          clear hK K
          try simp only [Act.put, List.setIfInBounds_toArray, List.set_cons_zero, List.set_cons_succ]
          refine anyE_take 18 (v := ?_) rfl (by kernel_rfl) (fun _ _ _ h => h) (by rfl) ?hz18b hHeld ?res18b
          case hz18b => (intro w hSw; (try dsimp only at hSw); go_simp; try with_reducible rfl)
          try simp only [Act.put, List.setIfInBounds_toArray, List.set_cons_zero, List.set_cons_succ]
          refine anyE_take 19 (v := ?_) rfl (by kernel_rfl) (fun _ _ _ h => h) (by rfl) ?hz19b hHeld ?res19b
          case hz19b => (intro w hSw; (try dsimp only at hSw); go_simp; try with_reducible rfl)
          try simp only [Act.put, List.setIfInBounds_toArray, List.set_cons_zero, List.set_cons_succ]
          refine anyE_done (by kernel_rfl) ?_ _
          replace HB := ext_trans HB hbb
          replace HBL := ext_trans HBL hbb
          clear hHeld
          go_wp2
          go_roundw
          case rel => exact ⟨k + 1, by omega, by go_num, HB, HBL⟩
          case measure => simp [intOf]; omega
    ·
      obtain rfl : k = n := by omega
      clear hlt
      rcases HOR.out with ⟨hc, hall⟩ | ⟨j, hj, hc, ht, hw⟩
      ·
        subst hc
        have HALL := Lib.hid hall
        obtain ⟨wo, hwo⟩ : ∃ wo : World, wo = wr := ⟨_, rfl⟩
        rw [← hwo] at HB HBL q0 q1 hm h3 g3 R1 hR1l ⊢
        have HF2 := Lib.hid (And.intro h3 R1)
        clear hwo hall hm h3 g3 R1 HF
        go_wp2
        go_loopw [121] (fun i wr => ∃ j : Nat, j ≤ ll.length ∧ i = .int .i64 j ∧ Below w.heap.size w wr ∧ Below wo.heap.size wo wr) (fun i _ => ll.length - (intOf i).toNat)
        case atStart => exact ⟨0, Nat.zero_le _, rfl, HB, .refl _ _⟩
        case round =>
          clear HB q0 q1
          obtain ⟨j, hj, rfl, HB, HB8⟩ := hrel
          obtain ⟨h3, R1⟩ := HF2.out
          replace h3 := h3.ext HB8
          by_cases hlt : j < ll.length
          ·
            have q := HQA.out j hlt
            obtain ⟨u, cu, iu⟩ := HLL.out.at (ext_trans HBL HB8) hlt
            have HJ := Lib.hid (HALL.out j hlt)
            have hul : (nthL ll j).length ≤ 4096 := G1.out.len (m := ⟨cols, ll⟩) (nthL_mem hlt)
            obtain ⟨au, ku, rfl, _⟩ := iu.form
            obtain ⟨row, hrow⟩ : ∃ row, row = nthL ll j := ⟨_, rfl⟩
            rw [← hrow] at cu iu HJ hul
            clear hrow
            obtain ⟨t, ht⟩ : ∃ t, t = trueP row l := ⟨_, rfl⟩
            have HT := Lib.hid ht.symm
            clear ht
            go_wp2_with fail
            refine (rtrue_calls (iu.ext (by (repeat (first | exact Below.refl _ _ | refine ext_alloc' ?_ _)))) (h3.ext (by (repeat (first | exact Below.refl _ _ | refine ext_alloc' ?_ _))))).mono ?_
            rintro _ w1 ⟨_, rfl, hb, rfl⟩
            have hYY := ext_trans (by (repeat (first | exact Below.refl _ _ | refine ext_alloc' ?_ _)) : Below wr.heap.size wr _) hb
            replace h3 := h3.ext hYY
            replace iu := iu.ext hYY
            replace HB := ext_trans HB hYY
            replace HB8 := ext_trans HB8 hYY
            clear hYY hb
            rw [HT.out]
            cases t with
            | true =>
              clear cu
              go_wp2
              go_roundw
              case rel => exact ⟨j + 1, by omega, by go_num, HB, HB8⟩
              case measure => simp [intOf]; omega
            | false =>
              have h2 : 2 ≤ (withoutP row l).length := by
                rcases HJ.out with h | h
                · rw [HT.out] at h; cases h
                · exact h
              obtain ⟨f, hf⟩ : ∃ f, f = withoutP row l := ⟨_, rfl⟩
              have HFF := Lib.hid hf.symm
              rw [← hf] at h2
              have d3 : decide (f.length < 2) = false := decide_eq_false (by omega)
              clear hf
              go_wp2_with fail
              refine (rwithout_calls (iu.ext (by (repeat (first | exact Below.refl _ _ | refine ext_alloc' ?_ _)))) (h3.ext (by (repeat (first | exact Below.refl _ _ | refine ext_alloc' ?_ _)))) (by omega)).mono ?_
              rintro _ w2 ⟨_, rfl, hb, a5, k5, rfl, h5⟩
              have hYY := ext_trans (by (repeat (first | exact Below.refl _ _ | refine ext_alloc' ?_ _)) : Below w1.heap.size w1 _) hb
              replace h3 := h3.ext hYY
              replace iu := iu.ext hYY
              replace HB := ext_trans HB hYY
              replace HB8 := ext_trans HB8 hYY
              clear hYY hb
              rw [HFF.out]
              clear cu h5
              go_wp2
              go_roundw
              case rel => exact ⟨j + 1, by omega, by go_num, HB, HB8⟩
              case measure => simp [intOf]; omega
          ·
            go_wp2_with fail
            refine (awake_calls _).mono ?_
            rintro _ w1 ⟨_, rfl, hb, rfl⟩
            have hYY := ext_trans (by (repeat (first | exact Below.refl _ _ | refine ext_alloc' ?_ _)) : Below wr.heap.size wr _) hb
            replace h3 := h3.ext hYY
            replace HB := ext_trans HB hYY
            replace HB8 := ext_trans HB8 hYY
            clear hYY hb
            go_wp2
            go_ret
            exact .mk HB rfl
      ·
        subst hc
        have q := HQA.out j hj
        obtain ⟨u, cu, iu⟩ := HLL.out.at HBL hj
        have hul : (nthL ll j).length ≤ 4096 := G1.out.len (m := ⟨cols, ll⟩) (nthL_mem hj)
        obtain ⟨au, ku, rfl, _⟩ := iu.form
        have HW := Lib.hid hw
        have d3 : decide (j < ll.length) = true := decide_eq_true hj
        clear hw ht hm g3
        obtain ⟨R1q0, R1q1⟩ := R1.two
        have R1l := R1.lt
        go_wp2_with fail
        refine (rwithout_calls (iu.ext (by (repeat (first | exact Below.refl _ _ | refine ext_alloc' ?_ _)))) (h3.ext (by (repeat (first | exact Below.refl _ _ | refine ext_alloc' ?_ _)))) (by omega)).mono ?_
        rintro _ w1 ⟨_, rfl, hb, a5, k5, rfl, h5⟩
        have hYY := ext_trans (by (repeat (first | exact Below.refl _ _ | refine ext_alloc' ?_ _)) : Below wr.heap.size wr _) hb
        replace h3 := h3.ext hYY
        replace iu := iu.ext hYY
        replace R1 := R1.ext hYY
        replace HB := ext_trans HB hYY
        replace HBL := ext_trans HBL hYY
        clear R1q0 R1q1 R1l hYY hb
        rw [HW.out]
        clear h5 cu
        obtain ⟨R1q0, R1q1⟩ := R1.two
        have R1l := R1.lt
        go_wp2_with fail
        refine (awake_calls _).mono ?_
        rintro _ w2 ⟨_, rfl, hb, rfl⟩
        have hYY := ext_trans (by (repeat (first | exact Below.refl _ _ | refine ext_alloc' ?_ _)) : Below w1.heap.size w1 _) hb
        replace h3 := h3.ext hYY
        replace iu := iu.ext hYY
        replace R1 := R1.ext hYY
        replace HB := ext_trans HB hYY
        replace HBL := ext_trans HBL hYY
        clear R1q0 R1q1 R1l hYY hb
        go_wp2
        go_ret
        exact .mk HB rfl
end Go.Proofs.Ytifcgcdbebgahaa
