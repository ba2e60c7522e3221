/- The walk of ClausesAgrees. Printed by law41.py. -/
import Derived.Test.YtifcgcdbebgahaaClLaw2
namespace Go.Proofs.Ytifcgcdbebgahaa
set_option linter.unusedVariables false
open Go.RowKit
attribute [local go_sem ↓] Go.wp_at_zero Go.wp_at_succ

set_option maxRecDepth 100000 in
set_option maxHeartbeats 8000000 in
theorem walkClausesAgrees {w : World} {vm : Value} {m : Mx} (hm : MatV TT w vm m) {vx : Value} {x : List Int} (hx : Ints TT w vx x) (b : Int) :
    Calls Try.prog 5 #[vm, vx, .int .u16 b] w (Post w fun _ r => r = .bool true) := by
  obtain ⟨cols, ll⟩ := m
  obtain ⟨rm, rfl, la⟩ := hm
  obtain ⟨aa, acap, rfl, _⟩ := la.form
  dsimp only at la ⊢
  have hm : MatV TT w (.agg #[.int .i64 cols, .slice aa ll.length acap]) ⟨cols, ll⟩ := ⟨_, rfl, la⟩
  clear la
  obtain ⟨ax, cx, rfl, _⟩ := hx.form
  have HB := Below.refl w.heap.size w
  go_enter Try.func5, Try.ntmps5
  go_wp2_with fail
  refine (few_calls (S := TT) (S' := TT) (ls := [x]) (hm.ext (by (repeat (first | exact Below.refl _ _ | refine ext_alloc' ?_ _)))) ?_).mono ?_
  · refine lits_at (e := 25) (ll := [x]) (vs := [.slice ax x.length cx]) ?_ (by simp) (show Ints TT _ _ _ ∧ True from ⟨hx.ext (by (repeat (first | exact Below.refl _ _ | refine ext_alloc' ?_ _))), trivial⟩)
    repeat (first | exact row_at _ _ _ _ (by simp) | refine Row.alloc ?_ _)
  rintro _ w1 ⟨_, rfl, hb, rfl⟩
  have hYY := ext_trans (by (repeat (first | exact Below.refl _ _ | refine ext_alloc' ?_ _)) : Below w.heap.size w _) hb
  have R1 : Row w1 (w.heap.size) 24 [.int .i64 cols, .slice aa ll.length acap] := Row.ext (by repeat (first | exact row_at _ _ _ _ (by simp) | refine Row.alloc ?_ _)) hb
  replace hm := hm.ext hYY
  replace hx := hx.ext hYY
  replace HB := ext_trans HB hYY
  clear hYY hb
  cases hf : fewL ⟨cols, ll⟩ [x] with
  | false =>
    clear hf
    obtain ⟨R1q0, R1q1⟩ := R1.two
    have R1l := R1.lt
    go_wp2_with fail
    refine (awake_calls _).mono ?_
    rintro _ w2 ⟨_, rfl, hb, rfl⟩
    have hYY := ext_trans (by (repeat (first | exact Below.refl _ _ | refine ext_alloc' ?_ _)) : Below w1.heap.size w1 _) hb
    replace hm := hm.ext hYY
    replace hx := hx.ext hYY
    replace R1 := R1.ext hYY
    replace HB := ext_trans HB hYY
    clear R1q0 R1q1 R1l hYY hb
    go_wp2
    go_ret
    exact .mk HB rfl
  | true =>
  obtain ⟨hfl, hfc⟩ := fewL_true hf
  have hxl : x.length ≤ 40 := hfl x (by simp)
  have HFC := Lib.hid hfc
  clear hf hfl hfc
  obtain ⟨c1, hc1⟩ : ∃ c1, c1 = checkC ⟨cols, ll⟩ := ⟨_, rfl⟩
  obtain ⟨c2, hc2⟩ : ∃ c2, c2 = assignE cols x := ⟨_, rfl⟩
  have HC1 := Lib.hid hc1.symm
  have HC2 := Lib.hid hc2.symm
  clear hc1 hc2
  obtain ⟨R1q0, R1q1⟩ := R1.two
  have R1l := R1.lt
  go_wp2_with fail
  refine (rcheck_lit (hm.ext (by (repeat (first | exact Below.refl _ _ | refine ext_alloc' ?_ _))))).mono ?_
  rintro _ w2 ⟨_, rfl, hb, rfl⟩
  have hYY := ext_trans (by (repeat (first | exact Below.refl _ _ | refine ext_alloc' ?_ _)) : Below w1.heap.size w1 _) hb
  replace hm := hm.ext hYY
  replace hx := hx.ext hYY
  replace R1 := R1.ext hYY
  replace HB := ext_trans HB hYY
  clear R1q0 R1q1 R1l hYY hb
  rw [HC1.out]
  by_cases h1 : ¬ c1 = 0
  ·
    have e1 : (c1 != 0) = true := by simp [h1]
    clear h1
    obtain ⟨R1q0, R1q1⟩ := R1.two
    have R1l := R1.lt
    go_wp2_with fail
    refine (awake_calls _).mono ?_
    rintro _ w3 ⟨_, rfl, hb, rfl⟩
    have hYY := ext_trans (by (repeat (first | exact Below.refl _ _ | refine ext_alloc' ?_ _)) : Below w2.heap.size w2 _) hb
    replace hm := hm.ext hYY
    replace hx := hx.ext hYY
    replace R1 := R1.ext hYY
    replace HB := ext_trans HB hYY
    clear R1q0 R1q1 R1l hYY hb
    go_wp2
    go_ret
    exact .mk HB rfl
  have h1 := Classical.not_not.1 h1
  have e1 : (c1 != 0) = false := by simp [h1]
  have G1 : Hid (COk ⟨cols, ll⟩) := Lib.hid (checkC_ok.1 (HC1.out.trans h1))
  clear h1
  have hcz : 0 ≤ cols := G1.out.c0
  have hcs := (fewC_true HFC.out (checkC_zero (checkC_ok.2 G1.out))).2.1
  have hcs : cols ≤ 14 := hcs
  have HGD : Hid (∀ r ∈ ll, ∀ y ∈ r, goodP cols y = true) := Lib.hid G1.out.good
  obtain ⟨R1q0, R1q1⟩ := R1.two
  have R1l := R1.lt
  go_wp2_with fail
  refine (rassignment_calls (n := cols) (hx.ext (by (repeat (first | exact Below.refl _ _ | refine ext_alloc' ?_ _)))) ⟨hcz, by omega⟩).mono ?_
  rintro _ w3 ⟨_, rfl, hb, rfl⟩
  have hYY := ext_trans (by (repeat (first | exact Below.refl _ _ | refine ext_alloc' ?_ _)) : Below w2.heap.size w2 _) hb
  replace hm := hm.ext hYY
  replace hx := hx.ext hYY
  replace R1 := R1.ext hYY
  replace HB := ext_trans HB hYY
  clear R1q0 R1q1 R1l hYY hb
  rw [HC2.out]
  by_cases h2 : ¬ c2 = 0
  ·
    have e2 : (c2 != 0) = true := by simp [h2]
    clear h2
    obtain ⟨R1q0, R1q1⟩ := R1.two
    have R1l := R1.lt
    go_wp2_with fail
    refine (awake_calls _).mono ?_
    rintro _ w4 ⟨_, rfl, hb, rfl⟩
    have hYY := ext_trans (by (repeat (first | exact Below.refl _ _ | refine ext_alloc' ?_ _)) : Below w3.heap.size w3 _) hb
    replace hm := hm.ext hYY
    replace hx := hx.ext hYY
    replace R1 := R1.ext hYY
    replace HB := ext_trans HB hYY
    clear R1q0 R1q1 R1l hYY hb
    go_wp2
    go_ret
    exact .mk HB rfl
  have h2 := Classical.not_not.1 h2
  have e2 : (c2 != 0) = false := by simp [h2]
  have G2 : Hid (AOK cols x) := Lib.hid ((assignE_ok (by omega)).1 (HC2.out.trans h2))
  clear h2
  have HF4 := Lib.hid (And.intro hm (And.intro hx R1))
  have hB4 := HB.size
  obtain ⟨R1q0, R1q1⟩ := R1.two
  have R1l := R1.lt
  go_wp2_with fail
  refine (model_calls _ ⟨hcz, hcs⟩ _).mono ?_
  rintro _ w9 ⟨vm, rfl, hb9, m0, hIM, hOm⟩
  replace HB := ext_trans HB hb9
  clear R1q0 R1q1 R1l hm hx R1 e1 e2
  obtain ⟨i0, hi, hz0, hz1, hz2⟩ := info_parts info_int
  have HXQ := Lib.hid (fun (W : World) (h : Ints TT W (.slice ax x.length cx) x) => idx_one Try.underlying25 hi hz1 (ints_ad h))
  have HIX := Lib.hid (fun (W : World) (S : Nat → Prop) (a : Option Addr) (n c : Nat) (h : Ad S W a n c) => idx_one Try.underlying25 hi hz1 h)
  clear hz0 hz2
  have hm9 : m0.length ≤ 14 := by have := hIM.1; omega
  have HIM := Lib.hid hIM
  have HOM := Lib.hid hOm
  clear hIM hOm
  have HI := Lib.hid (And.intro hi hz1)
  clear hi hz1
  go_wp2
  go_loopw [48] (fun i wr => ∃ (k : Nat) (mk : List Int), k ≤ x.length ∧ i = .int .i64 k ∧ Below w.heap.size w wr ∧ Below w3.heap.size w3 wr ∧ Hid (IsModel cols mk) ∧ Hid (wr.ownsRow w3.heap.size 3 1 vm mk.length (mk.map (Value.int .i64))) ∧ Hid (∀ z ∈ x.take k, z ∈ mk)) (fun i _ => x.length - (intOf i).toNat)
  case atStart => exact ⟨0, m0, Nat.zero_le _, rfl, HB, hb9, HIM, HOM, Lib.hid fun z hz => by simp at hz⟩
  case round =>
    clear HB hb9 HIM HOM hm9
    obtain ⟨k, mk, hk, rfl, HB, HB4, HIM, HOM, HIN⟩ := hrel
    obtain ⟨hm, hx, R1⟩ := HF4.out
    replace hm := hm.ext HB4
    replace hx := hx.ext HB4
    replace R1 := R1.ext HB4
    by_cases hlt : k < x.length
    ·
      have q := HXQ.out wr hx k hlt
      have cx := ints_cells0 hx k hlt
      have hgy := G2.out.good _ (nth_mem hlt)
      have HTK := Lib.hid (take_nth hlt)
      have HNG : Hid (-nth x k ∉ x.take k) := Lib.hid (by
        have := ((astep_iff (n := cols) (by omega)).1 ((afrom_zero (n := cols) (l := x) _ 0 rfl).1 ((assignE_ok (by omega)).2 G2.out) k (Nat.zero_le _) hlt)).2.2
        exact this)
      obtain ⟨y, hy⟩ : ∃ y, y = nth x k := ⟨_, rfl⟩
      rw [← hy] at cx hgy HTK HNG
      obtain ⟨p1, p2, p3, p4, p5⟩ := HIM.out.put hgy (by omega)
      obtain ⟨j, hj⟩ : ∃ j, j = (varS y - 1).toNat := ⟨_, rfl⟩
      rw [← hj] at p1 p2 p3 p4 p5
      obtain ⟨g, cg, rfl⟩ := owns_pos HOM.out (by omega)
      have cj : ∃ u, wr.cell? ⟨g, j, none⟩ = some u := ⟨_, by rw [HOM.out.cellAt j (by omega), List.getElem?_map, get?_nth p3]; rfl⟩
      obtain ⟨u0, cj⟩ := cj
      have fj := HOM.out.frozenAt j
      have hgl := HOM.out.lt g rfl
      have qj := HIX.out wr (fun _ => True) (some ⟨g, 0, none⟩) mk.length cg (.inr ⟨g, 0, rfl, hgl.2, trivial⟩) j p3
      rw [adr_add, Nat.zero_add] at qj
      have hv : varS y = (j : Int) + 1 := by omega
      have HV := Lib.hid (fun W => (hv ▸ (var_quiet W y).mono fun _ _ h => h.take : Calls Try.prog 24 #[.int .i64 y] W fun e W' => ∃ u, e = .returned u ∧ QW W W' ∧ u = .int .i64 ((j : Int) + 1)))
      have hj14 : j < 14 := by have := HIM.out.1; omega
      have hwr : IntKind.i64.wrap ((j : Int) + 1 - 1) = j := by rw [Int.add_sub_cancel]; exact IntWalk.i64_in _ (by omega)
      have HP1 := Lib.hid p1
      have HIN2 : Hid (∀ z ∈ x.take (k + 1), z ∈ mk.set j y) := Lib.hid (fun z hz => by
        rw [HTK.out] at hz
        rcases List.mem_append.1 hz with h | h
        · exact p5 z (HIN.out z h) (fun e => HNG.out (e ▸ h))
        · rw [List.mem_singleton.1 h]; exact p2)
      clear hy hgy p1 p2 p4 p5 hj hv HIM
      go_wp2_with fail
      refine (HV.out _).mono ?_
      rintro _ w8 ⟨_, rfl, hq8, rfl⟩
      have HB8 := ext_trans HB hq8.ext
      have HB48 := ext_trans HB4 hq8.ext
      have HO8 := owns_ext HOM.out hq8.ext
      have cj8 := cell_ext cj hq8.ext
      have fj8 := HO8.frozenAt j
      have hst := HO8.stored j (.int .i64 y)
      have hs8 := HB48.size
      have HO9 : Hid ((w8.setCell ⟨g, j, none⟩ (.int .i64 y)).ownsRow w3.heap.size 3 1 (.slice (some ⟨g, 0, none⟩) mk.length cg) (mk.set j y).length ((mk.set j y).map (Value.int .i64))) := Lib.hid (by
        have := hst.1
        rw [List.length_set, List.map_set]
        simpa using this)
      have HB9 := HB8.grown hst.2 (by omega) (fun i hi => by cases hi; omega)
      have HB49 := HB48.grown hst.2 hs8 (fun i hi => by cases hi; omega)
      clear cx cj fj HOM hst HO8 hq8 HV hm hx R1
      go_wp2
      go_roundw
      case rel => exact ⟨k + 1, mk.set j y, by omega, by go_num, HB9, HB49, HP1, HO9, HIN2⟩
      case measure => simp [intOf]; omega
    ·
      obtain rfl : k = x.length := by omega
      rw [List.take_length] at HIN
      have hmm := (Ints.of_own HOM.out (HIM.out.wf (by omega))).mono (S' := TT) (fun _ _ => trivial)
      obtain ⟨am, cm, rfl, _⟩ := hmm.form
      have HAS := Lib.hid (assignS_ok (m := ⟨cols, ll⟩) (x := x) (checkC_ok.2 G1.out) ((assignE_ok (n := cols) (by omega)).2 G2.out))
      have HPS := Lib.hid (propS_ok (m := ⟨cols, ll⟩) (x := x) (checkC_ok.2 G1.out) ((assignE_ok (n := cols) (by omega)).2 G2.out))
      obtain ⟨l, rs, c, hU, hll, hpre⟩ := units_prefix (l := ll) (x := x)
      have HPP : Hid (propS ⟨cols, ll⟩ x = (((l, rs), c), 0)) := Lib.hid (by rw [HPS.out]; exact congrArg (fun z => (z, (0 : Int))) hU)
      have HU := Lib.hid hU
      obtain ⟨i1, hE1⟩ := evalS_ok G1.out HIM.out
      obtain ⟨i2, hE2⟩ := evalS_ok (assigned_ok (x := x) G1.out) HIM.out
      have hEQ : decide (∀ r ∈ assignP ll x, trueP r mk = true) = decide (∀ r ∈ ll, trueP r mk = true) := decide_eq_decide.2 (assigned_true (by omega) HGD.out HIM.out HIN.out).symm
      rw [hEQ] at hE2
      obtain ⟨a, ha⟩ : ∃ a, a = decide (∀ r ∈ ll, trueP r mk = true) := ⟨_, rfl⟩
      rw [← ha] at hE1 hE2
      have HA := Lib.hid ha.symm
      have HE1 := Lib.hid hE1
      have HE2 := Lib.hid hE2
      obtain ⟨D, hD⟩ : ∃ D, D = assignP ll x := ⟨_, rfl⟩
      dsimp only at HAS
      rw [← hD] at HE2 HAS
      have hpl := hpre.length_le
      have HPT : Hid (l.take x.length = x) := Lib.hid (by obtain ⟨t, rfl⟩ := hpre; simp)
      have HLL := Lib.hid hll
      obtain ⟨n, hn⟩ : ∃ n, n = l.length := ⟨_, rfl⟩
      have HN := Lib.hid hn
      have hnx : x.length ≤ n := by omega
      have hnx1 : decide (n < x.length) = false := decide_eq_false (by omega)
      clear hU hpre hE1 hE2 hEQ ha hD hll hn hpl HB4 HOM
      obtain ⟨R1q0, R1q1⟩ := R1.two
      have R1l := R1.lt
      go_wp2_with fail
      refine (asg_lit (c := cols) (ll := D) (e := 0) (n := D.length) (hm.ext (by (repeat (first | exact Below.refl _ _ | refine ext_alloc' ?_ _)))) (hx.ext (by (repeat (first | exact Below.refl _ _ | refine ext_alloc' ?_ _)))) (by omega) HAS.out rfl).mono ?_
      rintro _ w1 ⟨_, rfl, hb, a1, k1, rfl, h1⟩
      have hYY := ext_trans (by (repeat (first | exact Below.refl _ _ | refine ext_alloc' ?_ _)) : Below wr.heap.size wr _) hb
      replace hm := hm.ext hYY
      replace hx := hx.ext hYY
      replace hmm := hmm.ext hYY
      replace R1 := R1.ext hYY
      replace HB := ext_trans HB hYY
      clear R1q0 R1q1 R1l hYY hb
      obtain ⟨R1q0, R1q1⟩ := R1.two
      have R1l := R1.lt
      go_wp2_with fail
      refine (eval_lit (i := i1) (q := a) (e := 0) (hm.ext (by (repeat (first | exact Below.refl _ _ | refine ext_alloc' ?_ _)))) (hmm.ext (by (repeat (first | exact Below.refl _ _ | refine ext_alloc' ?_ _)))) HE1.out).mono ?_
      rintro _ w2 ⟨_, rfl, hb, rfl⟩
      have hYY := ext_trans (by (repeat (first | exact Below.refl _ _ | refine ext_alloc' ?_ _)) : Below w1.heap.size w1 _) hb
      have R2 : Row w2 (w1.heap.size) 24 [.int .i64 cols, .slice a1 D.length k1] := Row.ext (by repeat (first | exact row_at _ _ _ _ (by simp) | refine Row.alloc ?_ _)) hb
      replace hm := hm.ext hYY
      replace hx := hx.ext hYY
      replace hmm := hmm.ext hYY
      replace h1 := h1.ext hYY
      replace R1 := R1.ext hYY
      replace HB := ext_trans HB hYY
      clear R1q0 R1q1 R1l hYY hb
      obtain ⟨R1q0, R1q1⟩ := R1.two
      have R1l := R1.lt
      obtain ⟨R2q0, R2q1⟩ := R2.two
      have R2l := R2.lt
      go_wp2_with fail
      refine (eval_lit (i := i2) (q := a) (e := 0) (h1.ext (by (repeat (first | exact Below.refl _ _ | refine ext_alloc' ?_ _)))) (hmm.ext (by (repeat (first | exact Below.refl _ _ | refine ext_alloc' ?_ _)))) HE2.out).mono ?_
      rintro _ w3 ⟨_, rfl, hb, rfl⟩
      have hYY := ext_trans (by (repeat (first | exact Below.refl _ _ | refine ext_alloc' ?_ _)) : Below w2.heap.size w2 _) hb
      replace hm := hm.ext hYY
      replace hx := hx.ext hYY
      replace hmm := hmm.ext hYY
      replace h1 := h1.ext hYY
      replace R1 := R1.ext hYY
      replace R2 := R2.ext hYY
      replace HB := ext_trans HB hYY
      clear R1q0 R1q1 R1l R2q0 R2q1 R2l hYY hb
      obtain ⟨R1q0, R1q1⟩ := R1.two
      have R1l := R1.lt
      obtain ⟨R2q0, R2q1⟩ := R2.two
      have R2l := R2.lt
      go_wp2_with fail
      refine (prop_lit (n := n) (k := n) (hm.ext (by (repeat (first | exact Below.refl _ _ | refine ext_alloc' ?_ _)))) (hx.ext (by (repeat (first | exact Below.refl _ _ | refine ext_alloc' ?_ _)))) (by omega) HPP.out HN.out (HN.out.trans HLL.out)).mono ?_
      rintro _ w4 ⟨_, rfl, hb, a3, k3, b3, d3, rfl, h3, g3⟩
      have hYY := ext_trans (by (repeat (first | exact Below.refl _ _ | refine ext_alloc' ?_ _)) : Below w3.heap.size w3 _) hb
      replace hm := hm.ext hYY
      replace hx := hx.ext hYY
      replace hmm := hmm.ext hYY
      replace h1 := h1.ext hYY
      replace R1 := R1.ext hYY
      replace R2 := R2.ext hYY
      replace HB := ext_trans HB hYY
      clear R1q0 R1q1 R1l R2q0 R2q1 R2l hYY hb
      have hk3 : n ≤ k3 := by
        obtain ⟨a0, cap0, e0, ad0, al0, am0, _⟩ := h3
        simp only [Value.slice.injEq] at e0
        obtain ⟨_, e1, e2⟩ := e0
        omega
      have hE : Try.prog.elem 25 = 3 := by simp [Program.elem, Try.underlying25]
      have hsl : ∀ W : World, (Instr.slice 25 (.slice a3 n k3) none (some (.int .i64 x.length)) none).run Try.prog W = .ok (.slice a3 x.length k3) W := fun W => by
        rw [run_slice_h (w := W) _ _ _ _ (by rw [hE]; exact Try.underlying25) .i64 x.length (by omega) (by omega), hE]
        cases a3 with
        | none => simp [sizeOf, typeInfo, HI.out.1, HI.out.2, Result.andThen, sliced]
        | some q => simp [sizeOf, typeInfo, HI.out.1, HI.out.2, Result.andThen, sliced, Addr.add]
      have h4 := h3.take (show x.length ≤ l.length by rw [← HN.out]; exact hnx)
      rw [HPT.out] at h4
      obtain ⟨R1q0, R1q1⟩ := R1.two
      have R1l := R1.lt
      obtain ⟨R2q0, R2q1⟩ := R2.two
      have R2l := R2.lt
      go_wp2_with fail
      refine (equal_lit (h4.ext (by (repeat (first | exact Below.refl _ _ | refine ext_alloc' ?_ _)))) (hx.ext (by (repeat (first | exact Below.refl _ _ | refine ext_alloc' ?_ _)))) rfl).mono ?_
      rintro _ w5 ⟨_, rfl, hb, rfl⟩
      have hYY := ext_trans (by (repeat (first | exact Below.refl _ _ | refine ext_alloc' ?_ _)) : Below w4.heap.size w4 _) hb
      replace hm := hm.ext hYY
      replace hx := hx.ext hYY
      replace hmm := hmm.ext hYY
      replace h1 := h1.ext hYY
      replace h3 := h3.ext hYY
      replace g3 := g3.ext hYY
      replace h4 := h4.ext hYY
      replace R1 := R1.ext hYY
      replace R2 := R2.ext hYY
      replace HB := ext_trans HB hYY
      clear R1q0 R1q1 R1l R2q0 R2q1 R2l hYY hb
      cases a with
      | false =>
        obtain ⟨R1q0, R1q1⟩ := R1.two
        have R1l := R1.lt
        obtain ⟨R2q0, R2q1⟩ := R2.two
        have R2l := R2.lt
        go_wp2_with fail
        refine (awake_calls _).mono ?_
        rintro _ w6 ⟨_, rfl, hb, rfl⟩
        have hYY := ext_trans (by (repeat (first | exact Below.refl _ _ | refine ext_alloc' ?_ _)) : Below w5.heap.size w5 _) hb
        replace hm := hm.ext hYY
        replace hx := hx.ext hYY
        replace hmm := hmm.ext hYY
        replace h1 := h1.ext hYY
        replace h3 := h3.ext hYY
        replace g3 := g3.ext hYY
        replace h4 := h4.ext hYY
        replace R1 := R1.ext hYY
        replace R2 := R2.ext hYY
        replace HB := ext_trans HB hYY
        clear R1q0 R1q1 R1l R2q0 R2q1 R2l hYY hb
        go_wp2
        go_ret
        exact .mk HB rfl
      | true =>
        have HUM := Lib.hid (units_model (n := cols) (by omega) HGD.out HIM.out HIN.out (of_decide_eq_true HA.out) HU.out)
        have HQ3 := Lib.hid (idx_one Try.underlying25 HI.out.1 HI.out.2 (ints_ad h3))
        rw [← HN.out] at HQ3
        have hnb : n ≤ 9223372036854775807 := by have := h3.len; rw [← HN.out] at this; unfold maxLen at this; omega
        have HF8 := Lib.hid (And.intro hmm h3)
        clear hm hx hmm h1 h3 g3 h4 R1 R2 hsl hk3
        go_wp2
        go_loopw [128] (fun i wz => ∃ j : Nat, j ≤ n ∧ i = .int .i64 j ∧ Below w.heap.size w wz ∧ Below w5.heap.size w5 wz) (fun i _ => n - (intOf i).toNat)
        case atStart => exact ⟨0, Nat.zero_le _, rfl, HB, .refl _ _⟩
        case round =>
          clear HB
          obtain ⟨j, hj, rfl, HB, HB8⟩ := hrel
          obtain ⟨hmm, h3⟩ := HF8.out
          replace hmm := hmm.ext HB8
          replace h3 := h3.ext HB8
          by_cases hlt : j < n
          ·
            have q := HQ3.out j hlt
            have hjl : j < l.length := by rw [← HN.out]; exact hlt
            have c3 := ints_cells0 h3 j hjl
            have HMB : Hid (memB mk (nth l j) = true) := Lib.hid (memB_iff.2 (HUM.out.1 _ (nth_mem hjl)))
            obtain ⟨v, hv⟩ : ∃ v, v = nth l j := ⟨_, rfl⟩
            rw [← hv] at c3 HMB
            clear hv hjl
            go_wp2_with fail
            refine (contains_calls (hmm.ext (by (repeat (first | exact Below.refl _ _ | refine ext_alloc' ?_ _)))) v).mono ?_
            rintro _ w1 ⟨_, rfl, hb, rfl⟩
            have hYY := ext_trans (by (repeat (first | exact Below.refl _ _ | refine ext_alloc' ?_ _)) : Below wr.heap.size wr _) hb
            replace hmm := hmm.ext hYY
            replace h3 := h3.ext hYY
            replace HB := ext_trans HB hYY
            replace HB8 := ext_trans HB8 hYY
            clear hYY hb
            rw [HMB.out]
            clear c3
            go_wp2
            go_roundw
            case rel => exact ⟨j + 1, by omega, by go_num, HB, HB8⟩
            case measure => simp [intOf]; omega
          ·
            have hcm : c = -1 := HUM.out.2
            subst hcm
            go_wp2_with fail
            refine (awake_calls _).mono ?_
            rintro _ w1 ⟨_, rfl, hb, rfl⟩
            have hYY := ext_trans (by (repeat (first | exact Below.refl _ _ | refine ext_alloc' ?_ _)) : Below wr.heap.size wr _) hb
            replace hmm := hmm.ext hYY
            replace h3 := h3.ext hYY
            replace HB := ext_trans HB hYY
            replace HB8 := ext_trans HB8 hYY
            clear hYY hb
            go_wp2
            go_ret
            exact .mk HB rfl
end Go.Proofs.Ytifcgcdbebgahaa
