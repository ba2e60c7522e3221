/- Chapter 07: the walk of ExprPermutes. -/
import Derived.Test.YthogcbffnbhalaaDoorExPw
import Derived.Test.YthogcbffnbhalaaDoorExLaw0
import Derived.Test.YthogcbffnbhalaaDoorExAwake
import Derived.Deep.DeepCutAuto
import Derived.Deep.OwnRows
namespace Go.Proofs.YthogcbffnbhalaaDoor
set_option linter.unusedVariables false
set_option linter.unusedSimpArgs false
set_option linter.unnecessarySimpa false
open Go.RowKit

theorem ready_factP {s : Sc} {e : Ex} (h : readyB s e = true) (hl : s.hears.length = 5) : sizeE e ≤ 128 ∧ ScOk s ∧ checkE e s.vars.length = 0 ∧ scBad s = false := by
  unfold readyB at h
  simp only [Bool.and_eq_true, decide_eq_true_eq] at h
  obtain ⟨⟨h1, h2⟩, h3⟩ := h
  by_cases hc : checkE e s.vars.length = 0
  · cases hb : scBad s with
    | true => have := (evalE_bad hc hb).2; omega
    | false =>
      obtain ⟨k1, k2, k3, k4, k5⟩ := Wf.of_check hc
      exact ⟨k4, scOk_of hb hl, hc, rfl⟩
  · exact absurd ((evalE_err hc).2.trans h3) hc

set_option maxRecDepth 100000 in
set_option maxHeartbeats 8000000 in
theorem walkExprPermutes {S S' : Nat → Prop} {w : World} {e : Ex} {v sv : Value} {s : Sc} {x0 x1 x2 x3 x4 : Nat} (hT : Tab w) (h : ExprV S w e v) (hs : ScV S' w s sv) (b0 : x0 < 256) (b1 : x1 < 256) (b2 : x2 < 256) (b3 : x3 < 256) (b4 : x4 < 256) :
    Calls Tryd.prog 3 #[v, sv, .agg #[.int .u8 (x0 : Int), .int .u8 (x1 : Int), .int .u8 (x2 : Int), .int .u8 (x3 : Int), .int .u8 (x4 : Int)]] w (Post w fun _ r => r = .bool true) := by
  obtain ⟨iv, ov, vv, h0, h1, h2, h3, h4, rfl, hh, hi, ho, hv⟩ := hs
  have HS : ScV S' w s (scAgg s.n iv ov h0 h1 h2 h3 h4 vv) := ⟨iv, ov, vv, h0, h1, h2, h3, h4, rfl, hh, hi, ho, hv⟩
  obtain ⟨ia, icap, rfl, _⟩ := hi.form
  obtain ⟨oa, ocap, rfl, _⟩ := ho.form
  obtain ⟨va, vcap, rfl, _⟩ := hv.form
  unfold scAgg
  unfold scAgg at HS
  have H5 := Lib.hid (show s.hears.length = 5 by rw [hh]; rfl)
  have HH := Lib.hid hh
  obtain ⟨n, hn⟩ : ∃ n, n = s.n := ⟨_, rfl⟩
  obtain ⟨V, hV⟩ : ∃ n, n = s.vars.length := ⟨_, rfl⟩
  obtain ⟨I, hI⟩ : ∃ n, n = s.inl.length := ⟨_, rfl⟩
  obtain ⟨O, hO⟩ : ∃ n, n = s.outl.length := ⟨_, rfl⟩
  rw [← hn, ← hV, ← hI, ← hO]
  rw [← hn, ← hV, ← hI, ← hO] at HS
  rw [← hI] at hi
  rw [← hO] at ho
  have HE := h
  obtain ⟨a, cap, rfl, eo, en, ae, l1, l2⟩ := h.parts
  obtain ⟨w0, hw0⟩ : ∃ w0, w0 = ((w.alloc (.cells #[.int .i64 e.op, .int .i64 e.num, .slice a e.args.length cap] 24)).alloc (.cells #[.int .i64 n, .slice ia I icap, .slice oa O ocap, .int .i64 h0, .int .i64 h1, .int .i64 h2, .int .i64 h3, .int .i64 h4, .slice va V vcap] 28)).alloc (.cells #[.int .u8 (x0 : Int), .int .u8 (x1 : Int), .int .u8 (x2 : Int), .int .u8 (x3 : Int), .int .u8 (x4 : Int)] 29) := ⟨_, rfl⟩
  have e0 : Below w.heap.size w w0 := by rw [hw0]; exact ext_alloc' (ext_alloc' (ext_alloc w _) _) _
  have rE : Row w0 w.heap.size 24 [.int .i64 e.op, .int .i64 e.num, .slice a e.args.length cap] := by rw [hw0]; exact ((row_new w [.int .i64 e.op, .int .i64 e.num, .slice a e.args.length cap] 24).alloc _).alloc _
  have rS : Row w0 (w.heap.size + 1) 28 [.int .i64 n, .slice ia I icap, .slice oa O ocap, .int .i64 h0, .int .i64 h1, .int .i64 h2, .int .i64 h3, .int .i64 h4, .slice va V vcap] := by
    have r2 := (row_new (w.alloc (.cells #[.int .i64 e.op, .int .i64 e.num, .slice a e.args.length cap] 24)) [.int .i64 n, .slice ia I icap, .slice oa O ocap, .int .i64 h0, .int .i64 h1, .int .i64 h2, .int .i64 h3, .int .i64 h4, .slice va V vcap] 28).alloc (.cells #[.int .u8 (x0 : Int), .int .u8 (x1 : Int), .int .u8 (x2 : Int), .int .u8 (x3 : Int), .int .u8 (x4 : Int)] 29)
    rw [World.size_alloc] at r2
    rw [hw0]
    exact r2
  have rB : Row w0 (w.heap.size + 2) 29 [.int .u8 (x0 : Int), .int .u8 (x1 : Int), .int .u8 (x2 : Int), .int .u8 (x3 : Int), .int .u8 (x4 : Int)] := by
    have r2 := row_new ((w.alloc (.cells #[.int .i64 e.op, .int .i64 e.num, .slice a e.args.length cap] 24)).alloc (.cells #[.int .i64 n, .slice ia I icap, .slice oa O ocap, .int .i64 h0, .int .i64 h1, .int .i64 h2, .int .i64 h3, .int .i64 h4, .slice va V vcap] 28)) [.int .u8 (x0 : Int), .int .u8 (x1 : Int), .int .u8 (x2 : Int), .int .u8 (x3 : Int), .int .u8 (x4 : Int)] 29
    rw [World.size_alloc, World.size_alloc] at r2
    rw [hw0]
    exact r2
  replace HE := HE.ext e0
  replace HS := HS.ext e0
  have HI := Lib.hid (hi.ext e0)
  have HO := Lib.hid (ho.ext e0)
  have HTB := Lib.hid (hT.ext e0)
  have AW := Lib.hid (fun W (hW : Below w0.heap.size w0 W) => awake_calls (HTB.out.ext hW))
  have RD := Lib.hid (fun W (hW : Below w0.heap.size w0 W) => ready_calls (HE.ext hW) (HS.ext hW))
  have HNV := Lib.hid (And.intro hn (And.intro hV (And.intro hI hO)))
  have HEE := Lib.hid HE
  have HSS := Lib.hid HS
  have E0 := Lib.hid e0
  obtain ⟨bR, hbR⟩ : ∃ x, x = readyB s e := ⟨_, rfl⟩
  rw [← hbR] at RD
  have HRF := Lib.hid (fun h => ready_factP (s := s) (e := e) (hbR ▸ h) H5.out)
  clear hbR hn hV hI hO hi ho hv hh HE HS hT h
  have T0 := Below.refl w0.heap.size w0
  have cx0 := rE.cell (j := 0) rfl
  have cx1 := rE.cell (j := 1) rfl
  have cx2 := rE.cell (j := 2) rfl
  have lrE := rE.lt
  have cy0 := rS.cell (j := 0) rfl
  have cy1 := rS.cell (j := 1) rfl
  have cy2 := rS.cell (j := 2) rfl
  have cy3 := rS.cell (j := 3) rfl
  have cy4 := rS.cell (j := 4) rfl
  have cy5 := rS.cell (j := 5) rfl
  have cy6 := rS.cell (j := 6) rfl
  have cy7 := rS.cell (j := 7) rfl
  have cy8 := rS.cell (j := 8) rfl
  have lrS := rS.lt
  go_enter Tryd.func3, Tryd.ntmps3
  go_upto_region 1 with fail
  rw [← hw0]
  clear hw0 e0
  go_wp2_with fail
  refine (RD.out _ T0).mono ?_
  rintro _ w1 ⟨_, rfl, hb, rfl⟩
  replace rE := rE.ext hb
  replace rS := rS.ext hb
  replace rB := rB.ext hb
  replace T0 := ext_trans T0 hb
  clear hb RD cx0 cx1 cx2 lrE cy0 cy1 cy2 cy3 cy4 cy5 cy6 cy7 cy8 lrS
  have cx0 := rE.cell (j := 0) rfl
  have cx1 := rE.cell (j := 1) rfl
  have cx2 := rE.cell (j := 2) rfl
  have lrE := rE.lt
  have cy0 := rS.cell (j := 0) rfl
  have cy1 := rS.cell (j := 1) rfl
  have cy2 := rS.cell (j := 2) rfl
  have cy3 := rS.cell (j := 3) rfl
  have cy4 := rS.cell (j := 4) rfl
  have cy5 := rS.cell (j := 5) rfl
  have cy6 := rS.cell (j := 6) rfl
  have cy7 := rS.cell (j := 7) rfl
  have cy8 := rS.cell (j := 8) rfl
  have lrS := rS.lt
  cases bR with
  | false =>
    go_wp2_with fail
    refine (AW.out _ T0).mono ?_
    rintro _ w99 ⟨_, rfl, hb, rfl⟩
    have HE9 := Lib.hid (ext_trans E0.out (ext_trans T0 hb))
    clear hb T0
    go_wp2
    go_ret
    exact .mk HE9.out rfl
  | true =>
  obtain ⟨hsz, hok, hck, hbad⟩ := HRF.out rfl
  have hn1 := hok.n0
  have hn5 := hok.n1
  rw [← HNV.out.1] at hn1 hn5
  obtain ⟨N, rfl⟩ : ∃ N : Nat, n = (N : Int) := ⟨n.toNat, by omega⟩
  have HOK := Lib.hid hok
  have HCK := Lib.hid hck
  have HBD := Lib.hid hbad
  have NM := Lib.hid (named_calls HEE.out w1 false T0 (by omega))
  clear hok hck hbad HRF
  by_cases hV0 : 0 < V
  · have dv : decide (0 < V) = true := decide_eq_true hV0
    have dv2 : decide ((0 : Int) < (V : Int)) = true := decide_eq_true (by omega)
    go_wp2_with fail
    refine (AW.out _ T0).mono ?_
    rintro _ w99 ⟨_, rfl, hb, rfl⟩
    have HE9 := Lib.hid (ext_trans E0.out (ext_trans T0 hb))
    clear hb T0
    go_wp2
    go_ret
    exact .mk HE9.out rfl
  have dv : decide (0 < V) = false := decide_eq_false hV0
  have dv2 : decide ((0 : Int) < (V : Int)) = false := decide_eq_false (by omega)
  go_wp2_with fail
  refine NM.out.mono ?_
  rintro _ w2 ⟨_, rfl, hb, rfl⟩
  obtain ⟨c, hc⟩ : ∃ c, c = namE e false := ⟨_, rfl⟩
  rw [← hc]
  have HC := Lib.hid hc
  replace rE := rE.ext hb
  replace rS := rS.ext hb
  replace rB := rB.ext hb
  replace T0 := ext_trans T0 hb
  clear hb NM hc cx0 cx1 cx2 lrE cy0 cy1 cy2 cy3 cy4 cy5 cy6 cy7 cy8 lrS
  have cx0 := rE.cell (j := 0) rfl
  have cx1 := rE.cell (j := 1) rfl
  have cx2 := rE.cell (j := 2) rfl
  have lrE := rE.lt
  have cy0 := rS.cell (j := 0) rfl
  have cy1 := rS.cell (j := 1) rfl
  have cy2 := rS.cell (j := 2) rfl
  have cy3 := rS.cell (j := 3) rfl
  have cy4 := rS.cell (j := 4) rfl
  have cy5 := rS.cell (j := 5) rfl
  have cy6 := rS.cell (j := 6) rfl
  have cy7 := rS.cell (j := 7) rfl
  have cy8 := rS.cell (j := 8) rfl
  have lrS := rS.lt
  cases c with
  | false =>
    go_wp2_with fail
    refine (AW.out _ T0).mono ?_
    rintro _ w99 ⟨_, rfl, hb, rfl⟩
    have HE9 := Lib.hid (ext_trans E0.out (ext_trans T0 hb))
    clear hb T0
    go_wp2
    go_ret
    exact .mk HE9.out rfl
  | true =>
  by_cases hIN : I = N
  case neg =>
    have d1 : ((I : Int) != (N : Int)) = true := by rw [bne_iff_ne]; omega
    go_wp2_with fail
    refine (AW.out _ T0).mono ?_
    rintro _ w99 ⟨_, rfl, hb, rfl⟩
    have HE9 := Lib.hid (ext_trans E0.out (ext_trans T0 hb))
    clear hb T0
    go_wp2
    go_ret
    exact .mk HE9.out rfl
  have d1 : ((I : Int) != (N : Int)) = false := by simp [hIN]
  by_cases hON : O = N
  case neg =>
    have d2 : ((O : Int) != (N : Int)) = true := by rw [bne_iff_ne]; omega
    go_wp2_with fail
    refine (AW.out _ T0).mono ?_
    rintro _ w99 ⟨_, rfl, hb, rfl⟩
    have HE9 := Lib.hid (ext_trans E0.out (ext_trans T0 hb))
    clear hb T0
    go_wp2
    go_ret
    exact .mk HE9.out rfl
  have d2 : ((O : Int) != (N : Int)) = false := by simp [hON]
  go_upto_region 3 with fail
  have HVZ := Lib.hid hV0
  clear dv dv2 d1 d2 hV0
  have hN1 : 1 ≤ N := by omega
  have hN5 : N ≤ 5 := by omega
  have HIN := Lib.hid hIN
  have HON := Lib.hid hON
  have HBB := Lib.hid (And.intro b0 (And.intro b1 (And.intro b2 (And.intro b3 b4))))
  have RP := row_new w2 [.int .i64 0, .int .i64 1, .int .i64 2, .int .i64 3, .int .i64 4] 3
  have e3 := ext_alloc w2 (.cells #[.int .i64 0, .int .i64 1, .int .i64 2, .int .i64 3, .int .i64 4] 3)
  clear hIN hON b0 b1 b2 b3 b4 hn1 hn5
  go_upto_region 4 with fail
  obtain ⟨w3, hw3⟩ : ∃ w3, w3 = w2.alloc (.cells #[.int .i64 0, .int .i64 1, .int .i64 2, .int .i64 3, .int .i64 4] 3) := ⟨_, rfl⟩
  obtain ⟨PB, hPB⟩ : ∃ b, b = w2.heap.size := ⟨_, rfl⟩
  have hlE := rE.lt
  have hlS := rS.lt
  have hlB := rB.lt
  rw [← hw3] at RP e3 ⊢
  rw [← hPB] at RP ⊢
  have hp0 : w.heap.size + 2 < PB := by omega
  have HPW : Hid (w0.heap.size ≤ PB) := Lib.hid (by rw [hPB]; exact T0.size)
  replace rE := rE.ext e3
  replace rS := rS.ext e3
  replace rB := rB.ext e3
  have T3 := Lib.hid (ext_trans T0 e3)
  have HPB3 : Hid (PB < w3.heap.size) := Lib.hid RP.lt
  have y3 := Below.refl PB w3
  have HP0 : Hid ((([0, 1, 2, 3, 4] : List Int).take N).Perm ((List.range N).map fun k : Nat => (k : Int))) := Lib.hid (by
    have hc : N = 1 ∨ N = 2 ∨ N = 3 ∨ N = 4 ∨ N = 5 := by omega
    rcases hc with rfl | rfl | rfl | rfl | rfl <;> decide)
  have RP0 : Row w3 PB 3 (([0, 1, 2, 3, 4] : List Int).map (Value.int .i64)) := RP
  have HRE := Lib.hid rE
  have HRS := Lib.hid rS
  have HRB := Lib.hid rB
  have HRW : Hid (∀ W, Below PB w3 W → Row W w.heap.size 24 [.int .i64 e.op, .int .i64 e.num, .slice a e.args.length cap] ∧ Row W (w.heap.size + 1) 28 [.int .i64 N, .slice ia I icap, .slice oa O ocap, .int .i64 h0, .int .i64 h1, .int .i64 h2, .int .i64 h3, .int .i64 h4, .slice va V vcap] ∧ Row W (w.heap.size + 2) 29 [.int .u8 (x0 : Int), .int .u8 (x1 : Int), .int .u8 (x2 : Int), .int .u8 (x3 : Int), .int .u8 (x4 : Int)]) := Lib.hid fun W hW => ⟨HRE.out.agree (S := fun b => b < PB) (.of_below hW fun b hb _ => hb) (by omega), HRS.out.agree (S := fun b => b < PB) (.of_below hW fun b hb _ => hb) (by omega), HRB.out.agree (S := fun b => b < PB) (.of_below hW fun b hb _ => hb) (by omega)⟩
  clear hw3 hPB e3 T0 RP rE rS rB hlE hlS hlB cx0 cx1 cx2 lrE cy0 cy1 cy2 cy3 cy4 cy5 cy6 cy7 cy8 lrS HRE HRS HRB
  go_wp2
  go_loopw [8, 9, 57] (fun _ _ iv wr => ∃ (k : Nat) (L : List Int), k ≤ N ∧ iv = .int .i64 k ∧ L.length = 5 ∧ Hid ((L.take N).Perm ((List.range N).map fun k : Nat => (k : Int))) ∧ Below PB w3 wr ∧ Row wr PB 3 (L.map (Value.int .i64))) (fun _ _ iv _ => N - (intOf iv).toNat)
  case atStart => exact ⟨0, _, by omega, rfl, rfl, HP0, y3, RP0⟩
  case round =>
    clear y3 HP0 RP0
    obtain ⟨k, L, hk, rfl, hL, HPM, y3, RP⟩ := hrel
    by_cases hlt : k < N
    case neg =>
      obtain ⟨rE, rS, rB⟩ := HRW.out _ y3
      have y3x : Below w0.heap.size w0 wr := T3.out.trans (y3.mono HPW.out)
      have hmk := run_make_row' 25 3 (.int .i64 0) 8 Tryd.underlying25 info_int rfl .i64 .i64 N (by omega) (by omega)
      have KEEP : Hid (∀ w', Below wr.heap.size wr w' → (fun w' : World => w'.cell? ⟨w.heap.size + 1, 0, none⟩ = some (.int .i64 N)) w') := Lib.hid fun w' hw => (rS.ext hw).cell (j := 0) rfl
      clear rE rS rB
      go_upto_region 10 with fail
      go_cut [10] (fun s10 wx => ∃ TB IB OB, s10 = .pointer (some ⟨TB, 0, none⟩) ∧ Below wr.heap.size wr wx ∧ Row wx TB 28 [.int .i64 N, .slice (some ⟨IB, 0, none⟩) N N, .slice (some ⟨OB, 0, none⟩) N N, .int .i64 0, .int .i64 0, .int .i64 0, .int .i64 0, .int .i64 0, .slice none 0 0] ∧ Row wx IB 3 (List.replicate N (.int .i64 0)) ∧ Row wx OB 3 (List.replicate N (.int .i64 0)) ∧ (wr.heap.size ≤ TB ∧ wr.heap.size ≤ IB ∧ wr.heap.size ≤ OB) ∧ (TB ≠ IB ∧ TB ≠ OB ∧ IB ≠ OB))
      case first =>
        refine region_E (fun w' : World => w'.cell? ⟨w.heap.size + 1, 0, none⟩ = some (.int .i64 N)) (fun i => false) (by kernel_rfl) ?_ (fun hHeld => ?_)
        · exact KEEP.out _ (drewN_below wr.heap.size wr 1)
        refine anyE_take 0 (v := ?_) rfl (by kernel_rfl) (fun _ _ _ h => h) (by rfl) ?hy0q hHeld ?rest0q
        case hy0q => (intro w hSw; (try dsimp only at hSw); go_simp; try with_reducible rfl)
        try simp only [Act.put, List.setIfInBounds_toArray, List.set_cons_zero, List.set_cons_succ]
        refine anyE_take 1 (v := ?_) rfl (by kernel_rfl) (fun _ _ _ h => h) (by rfl) ?hy1q hHeld ?rest1q
        case hy1q => (intro w hSw; (try dsimp only at hSw); go_simp; try with_reducible rfl)
        try simp only [Act.put, List.setIfInBounds_toArray, List.set_cons_zero, List.set_cons_succ]
        refine anyE_take 2 (v := ?_) rfl (by kernel_rfl) (fun _ _ _ h => h) (by rfl) ?hy2q hHeld ?rest2q
        case hy2q => (intro w hSw; (try dsimp only at hSw); go_simp; try with_reducible rfl)
        try simp only [Act.put, List.setIfInBounds_toArray, List.set_cons_zero, List.set_cons_succ]
        refine anyE_take 3 (v := ?_) rfl (by kernel_rfl) (fun _ _ _ h => h) (by rfl) ?hy3q hHeld ?rest3q
        case hy3q => (intro w hSw; (try dsimp only at hSw); go_simp; try with_reducible rfl)
        try simp only [Act.put, List.setIfInBounds_toArray, List.set_cons_zero, List.set_cons_succ]
        refine anyE_take 5 (v := ?_) rfl (by kernel_rfl) (fun _ _ _ h => h) (by rfl) ?hy5q hHeld ?rest5q
        case hy5q => (intro w hSw; (try dsimp only at hSw); go_simp; try with_reducible rfl)
        try simp only [Act.put, List.setIfInBounds_toArray, List.set_cons_zero, List.set_cons_succ]
        refine anyE_take 6 (v := ?_) rfl (by kernel_rfl) (fun _ _ _ h => h) (by rfl) ?hy6q hHeld ?rest6q
        case hy6q => (intro w hSw; (try dsimp only at hSw); go_simp; try with_reducible rfl)
        try simp only [Act.put, List.setIfInBounds_toArray, List.set_cons_zero, List.set_cons_succ]
        refine anyE_three 4 7 9 rfl rfl rfl (by kernel_rfl) (fun K hK => ?_) (fun K hK => ?_) (fun K hK => ?_)
        · go_simp
          refine hK.out _ _ (fun _ => KEEP.out _ (ext_drewN (ext_alloc wr (.cells (madeCells #[.int .i64 0] N) 3)) 1)) (fun hHeld => ?_); replace hHeld := hHeld rfl
          clear hK K
          try simp only [Act.put, List.setIfInBounds_toArray, List.set_cons_zero, List.set_cons_succ]
          refine anyE_two 7 9 rfl rfl (by kernel_rfl) (fun K hK => ?_) (fun K hK => ?_)
          · go_simp
            refine hK.out _ _ (fun _ => KEEP.out _ (ext_drewN (ext_alloc' (ext_alloc wr (.cells (madeCells #[.int .i64 0] N) 3)) (.cells (madeCells #[.int .i64 0] N) 3)) 1)) (fun hHeld => ?_); replace hHeld := hHeld rfl
            clear hK K
            try simp only [Act.put, List.setIfInBounds_toArray, List.set_cons_zero, List.set_cons_succ]
            refine anyE_take 8 (v := ?_) rfl (by kernel_rfl) (fun _ _ _ h => h) (by rfl) ?hy8IOT hHeld ?rest8IOT
            case hy8IOT => (intro w hSw; (try dsimp only at hSw); go_simp; try with_reducible rfl)
            try simp only [Act.put, List.setIfInBounds_toArray, List.set_cons_zero, List.set_cons_succ]
            refine anyE_one 9 rfl (by kernel_rfl) (fun K hK => ?_)
            go_simp
            refine hK.out _ _ (fun _ => KEEP.out _ (ext_drewN (ext_alloc' (ext_alloc' (ext_alloc wr (.cells (madeCells #[.int .i64 0] N) 3)) (.cells (madeCells #[.int .i64 0] N) 3)) (.cells #[.int .i64 0, .slice none 0 0, .slice none 0 0, .int .i64 0, .int .i64 0, .int .i64 0, .int .i64 0, .int .i64 0, .slice none 0 0] 28)) 1)) (fun hHeld => ?_); replace hHeld := hHeld rfl
            clear hK K
            try simp only [Act.put, List.setIfInBounds_toArray, List.set_cons_zero, List.set_cons_succ]
            refine anyE_one 10 rfl (by kernel_rfl) (fun K hK => ?_)
            go_simp
            refine hK.out _ _ (fun _ => KEEP.out _ (ext_drewN (ext_alloc' (ext_alloc' (ext_alloc wr (.cells (madeCells #[.int .i64 0] N) 3)) (.cells (madeCells #[.int .i64 0] N) 3)) (.cells #[.int .i64 N, .slice (some ⟨wr.heap.size, 0, none⟩) N N, .slice (some ⟨wr.heap.size + 1, 0, none⟩) N N, .int .i64 0, .int .i64 0, .int .i64 0, .int .i64 0, .int .i64 0, .slice none 0 0] 28)) 1)) (fun hHeld => ?_); replace hHeld := hHeld rfl
            clear hK K
            try simp only [Act.put, List.setIfInBounds_toArray, List.set_cons_zero, List.set_cons_succ]
            refine anyE_done (by kernel_rfl) ?_ _
            have RI := ((Row.made wr (.int .i64 0) N 3).alloc (.cells (madeCells #[.int .i64 0] N) 3)).alloc (.cells #[.int .i64 N, .slice (some ⟨wr.heap.size, 0, none⟩) N N, .slice (some ⟨wr.heap.size + 1, 0, none⟩) N N, .int .i64 0, .int .i64 0, .int .i64 0, .int .i64 0, .int .i64 0, .slice none 0 0] 28)
            have RO := (Row.made (wr.alloc (.cells (madeCells #[.int .i64 0] N) 3)) (.int .i64 0) N 3).alloc (.cells #[.int .i64 N, .slice (some ⟨wr.heap.size, 0, none⟩) N N, .slice (some ⟨wr.heap.size + 1, 0, none⟩) N N, .int .i64 0, .int .i64 0, .int .i64 0, .int .i64 0, .int .i64 0, .slice none 0 0] 28)
            have RT := row_new ((wr.alloc (.cells (madeCells #[.int .i64 0] N) 3)).alloc (.cells (madeCells #[.int .i64 0] N) 3)) [.int .i64 N, .slice (some ⟨wr.heap.size, 0, none⟩) N N, .slice (some ⟨wr.heap.size + 1, 0, none⟩) N N, .int .i64 0, .int .i64 0, .int .i64 0, .int .i64 0, .int .i64 0, .slice none 0 0] 28
            simp only [World.size_alloc] at RI RO RT
            have eX := (ext_drewN (ext_alloc' (ext_alloc' (ext_alloc wr (.cells (madeCells #[.int .i64 0] N) 3)) (.cells (madeCells #[.int .i64 0] N) 3)) (.cells #[.int .i64 N, .slice (some ⟨wr.heap.size, 0, none⟩) N N, .slice (some ⟨wr.heap.size + 1, 0, none⟩) N N, .int .i64 0, .int .i64 0, .int .i64 0, .int .i64 0, .int .i64 0, .slice none 0 0] 28)) 1)
            have d1 := drewN_below (((wr.alloc (.cells (madeCells #[.int .i64 0] N) 3)).alloc (.cells (madeCells #[.int .i64 0] N) 3)).alloc (.cells #[.int .i64 N, .slice (some ⟨wr.heap.size, 0, none⟩) N N, .slice (some ⟨wr.heap.size + 1, 0, none⟩) N N, .int .i64 0, .int .i64 0, .int .i64 0, .int .i64 0, .int .i64 0, .slice none 0 0] 28)).heap.size (((wr.alloc (.cells (madeCells #[.int .i64 0] N) 3)).alloc (.cells (madeCells #[.int .i64 0] N) 3)).alloc (.cells #[.int .i64 N, .slice (some ⟨wr.heap.size, 0, none⟩) N N, .slice (some ⟨wr.heap.size + 1, 0, none⟩) N N, .int .i64 0, .int .i64 0, .int .i64 0, .int .i64 0, .int .i64 0, .slice none 0 0] 28)) 1
            have wy := Lib.hid (show ∃ TB IB OB, Value.pointer (some ⟨wr.heap.size + 1 + 1, 0, none⟩) = .pointer (some ⟨TB, 0, none⟩) ∧ Below wr.heap.size wr ((((wr.alloc (.cells (madeCells #[.int .i64 0] N) 3)).alloc (.cells (madeCells #[.int .i64 0] N) 3)).alloc (.cells #[.int .i64 N, .slice (some ⟨wr.heap.size, 0, none⟩) N N, .slice (some ⟨wr.heap.size + 1, 0, none⟩) N N, .int .i64 0, .int .i64 0, .int .i64 0, .int .i64 0, .int .i64 0, .slice none 0 0] 28)).drewN 1) ∧ Row ((((wr.alloc (.cells (madeCells #[.int .i64 0] N) 3)).alloc (.cells (madeCells #[.int .i64 0] N) 3)).alloc (.cells #[.int .i64 N, .slice (some ⟨wr.heap.size, 0, none⟩) N N, .slice (some ⟨wr.heap.size + 1, 0, none⟩) N N, .int .i64 0, .int .i64 0, .int .i64 0, .int .i64 0, .int .i64 0, .slice none 0 0] 28)).drewN 1) TB 28 [.int .i64 N, .slice (some ⟨IB, 0, none⟩) N N, .slice (some ⟨OB, 0, none⟩) N N, .int .i64 0, .int .i64 0, .int .i64 0, .int .i64 0, .int .i64 0, .slice none 0 0] ∧ Row ((((wr.alloc (.cells (madeCells #[.int .i64 0] N) 3)).alloc (.cells (madeCells #[.int .i64 0] N) 3)).alloc (.cells #[.int .i64 N, .slice (some ⟨wr.heap.size, 0, none⟩) N N, .slice (some ⟨wr.heap.size + 1, 0, none⟩) N N, .int .i64 0, .int .i64 0, .int .i64 0, .int .i64 0, .int .i64 0, .slice none 0 0] 28)).drewN 1) IB 3 (List.replicate N (.int .i64 0)) ∧ Row ((((wr.alloc (.cells (madeCells #[.int .i64 0] N) 3)).alloc (.cells (madeCells #[.int .i64 0] N) 3)).alloc (.cells #[.int .i64 N, .slice (some ⟨wr.heap.size, 0, none⟩) N N, .slice (some ⟨wr.heap.size + 1, 0, none⟩) N N, .int .i64 0, .int .i64 0, .int .i64 0, .int .i64 0, .int .i64 0, .slice none 0 0] 28)).drewN 1) OB 3 (List.replicate N (.int .i64 0)) ∧ (wr.heap.size ≤ TB ∧ wr.heap.size ≤ IB ∧ wr.heap.size ≤ OB) ∧ (TB ≠ IB ∧ TB ≠ OB ∧ IB ≠ OB) from ⟨_, _, _, rfl, eX, RT.ext d1, RI.ext d1, RO.ext d1, by omega, by omega⟩)
            clear hHeld KEEP RI RO RT eX d1
            go_wp2_with fail
            go_meet
            exact wy.out
          · go_simp
            refine hK.out _ _ (fun _ => KEEP.out _ (ext_drewN (ext_alloc' (ext_alloc wr (.cells (madeCells #[.int .i64 0] N) 3)) (.cells #[.int .i64 0, .slice none 0 0, .slice none 0 0, .int .i64 0, .int .i64 0, .int .i64 0, .int .i64 0, .int .i64 0, .slice none 0 0] 28)) 1)) (fun hHeld => ?_); replace hHeld := hHeld rfl
            clear hK K
            try simp only [Act.put, List.setIfInBounds_toArray, List.set_cons_zero, List.set_cons_succ]
            refine anyE_one 7 rfl (by kernel_rfl) (fun K hK => ?_)
            go_simp
            refine hK.out _ _ (fun _ => KEEP.out _ (ext_drewN (ext_alloc' (ext_alloc' (ext_alloc wr (.cells (madeCells #[.int .i64 0] N) 3)) (.cells #[.int .i64 0, .slice none 0 0, .slice none 0 0, .int .i64 0, .int .i64 0, .int .i64 0, .int .i64 0, .int .i64 0, .slice none 0 0] 28)) (.cells (madeCells #[.int .i64 0] N) 3)) 1)) (fun hHeld => ?_); replace hHeld := hHeld rfl
            clear hK K
            try simp only [Act.put, List.setIfInBounds_toArray, List.set_cons_zero, List.set_cons_succ]
            refine anyE_take 8 (v := ?_) rfl (by kernel_rfl) (fun _ _ _ h => h) (by rfl) ?hy8ITO hHeld ?rest8ITO
            case hy8ITO => (intro w hSw; (try dsimp only at hSw); go_simp; try with_reducible rfl)
            try simp only [Act.put, List.setIfInBounds_toArray, List.set_cons_zero, List.set_cons_succ]
            refine anyE_one 10 rfl (by kernel_rfl) (fun K hK => ?_)
            go_simp
            refine hK.out _ _ (fun _ => KEEP.out _ (ext_drewN (ext_alloc' (ext_alloc' (ext_alloc wr (.cells (madeCells #[.int .i64 0] N) 3)) (.cells #[.int .i64 N, .slice (some ⟨wr.heap.size, 0, none⟩) N N, .slice (some ⟨wr.heap.size + 1 + 1, 0, none⟩) N N, .int .i64 0, .int .i64 0, .int .i64 0, .int .i64 0, .int .i64 0, .slice none 0 0] 28)) (.cells (madeCells #[.int .i64 0] N) 3)) 1)) (fun hHeld => ?_); replace hHeld := hHeld rfl
            clear hK K
            try simp only [Act.put, List.setIfInBounds_toArray, List.set_cons_zero, List.set_cons_succ]
            refine anyE_done (by kernel_rfl) ?_ _
            have RI := ((Row.made wr (.int .i64 0) N 3).alloc (.cells #[.int .i64 N, .slice (some ⟨wr.heap.size, 0, none⟩) N N, .slice (some ⟨wr.heap.size + 1 + 1, 0, none⟩) N N, .int .i64 0, .int .i64 0, .int .i64 0, .int .i64 0, .int .i64 0, .slice none 0 0] 28)).alloc (.cells (madeCells #[.int .i64 0] N) 3)
            have RT := (row_new (wr.alloc (.cells (madeCells #[.int .i64 0] N) 3)) [.int .i64 N, .slice (some ⟨wr.heap.size, 0, none⟩) N N, .slice (some ⟨wr.heap.size + 1 + 1, 0, none⟩) N N, .int .i64 0, .int .i64 0, .int .i64 0, .int .i64 0, .int .i64 0, .slice none 0 0] 28).alloc (.cells (madeCells #[.int .i64 0] N) 3)
            have RO := Row.made ((wr.alloc (.cells (madeCells #[.int .i64 0] N) 3)).alloc (.cells #[.int .i64 N, .slice (some ⟨wr.heap.size, 0, none⟩) N N, .slice (some ⟨wr.heap.size + 1 + 1, 0, none⟩) N N, .int .i64 0, .int .i64 0, .int .i64 0, .int .i64 0, .int .i64 0, .slice none 0 0] 28)) (.int .i64 0) N 3
            simp only [World.size_alloc] at RI RO RT
            have eX := (ext_drewN (ext_alloc' (ext_alloc' (ext_alloc wr (.cells (madeCells #[.int .i64 0] N) 3)) (.cells #[.int .i64 N, .slice (some ⟨wr.heap.size, 0, none⟩) N N, .slice (some ⟨wr.heap.size + 1 + 1, 0, none⟩) N N, .int .i64 0, .int .i64 0, .int .i64 0, .int .i64 0, .int .i64 0, .slice none 0 0] 28)) (.cells (madeCells #[.int .i64 0] N) 3)) 1)
            have d1 := drewN_below (((wr.alloc (.cells (madeCells #[.int .i64 0] N) 3)).alloc (.cells #[.int .i64 N, .slice (some ⟨wr.heap.size, 0, none⟩) N N, .slice (some ⟨wr.heap.size + 1 + 1, 0, none⟩) N N, .int .i64 0, .int .i64 0, .int .i64 0, .int .i64 0, .int .i64 0, .slice none 0 0] 28)).alloc (.cells (madeCells #[.int .i64 0] N) 3)).heap.size (((wr.alloc (.cells (madeCells #[.int .i64 0] N) 3)).alloc (.cells #[.int .i64 N, .slice (some ⟨wr.heap.size, 0, none⟩) N N, .slice (some ⟨wr.heap.size + 1 + 1, 0, none⟩) N N, .int .i64 0, .int .i64 0, .int .i64 0, .int .i64 0, .int .i64 0, .slice none 0 0] 28)).alloc (.cells (madeCells #[.int .i64 0] N) 3)) 1
            have wy := Lib.hid (show ∃ TB IB OB, Value.pointer (some ⟨wr.heap.size + 1, 0, none⟩) = .pointer (some ⟨TB, 0, none⟩) ∧ Below wr.heap.size wr ((((wr.alloc (.cells (madeCells #[.int .i64 0] N) 3)).alloc (.cells #[.int .i64 N, .slice (some ⟨wr.heap.size, 0, none⟩) N N, .slice (some ⟨wr.heap.size + 1 + 1, 0, none⟩) N N, .int .i64 0, .int .i64 0, .int .i64 0, .int .i64 0, .int .i64 0, .slice none 0 0] 28)).alloc (.cells (madeCells #[.int .i64 0] N) 3)).drewN 1) ∧ Row ((((wr.alloc (.cells (madeCells #[.int .i64 0] N) 3)).alloc (.cells #[.int .i64 N, .slice (some ⟨wr.heap.size, 0, none⟩) N N, .slice (some ⟨wr.heap.size + 1 + 1, 0, none⟩) N N, .int .i64 0, .int .i64 0, .int .i64 0, .int .i64 0, .int .i64 0, .slice none 0 0] 28)).alloc (.cells (madeCells #[.int .i64 0] N) 3)).drewN 1) TB 28 [.int .i64 N, .slice (some ⟨IB, 0, none⟩) N N, .slice (some ⟨OB, 0, none⟩) N N, .int .i64 0, .int .i64 0, .int .i64 0, .int .i64 0, .int .i64 0, .slice none 0 0] ∧ Row ((((wr.alloc (.cells (madeCells #[.int .i64 0] N) 3)).alloc (.cells #[.int .i64 N, .slice (some ⟨wr.heap.size, 0, none⟩) N N, .slice (some ⟨wr.heap.size + 1 + 1, 0, none⟩) N N, .int .i64 0, .int .i64 0, .int .i64 0, .int .i64 0, .int .i64 0, .slice none 0 0] 28)).alloc (.cells (madeCells #[.int .i64 0] N) 3)).drewN 1) IB 3 (List.replicate N (.int .i64 0)) ∧ Row ((((wr.alloc (.cells (madeCells #[.int .i64 0] N) 3)).alloc (.cells #[.int .i64 N, .slice (some ⟨wr.heap.size, 0, none⟩) N N, .slice (some ⟨wr.heap.size + 1 + 1, 0, none⟩) N N, .int .i64 0, .int .i64 0, .int .i64 0, .int .i64 0, .int .i64 0, .slice none 0 0] 28)).alloc (.cells (madeCells #[.int .i64 0] N) 3)).drewN 1) OB 3 (List.replicate N (.int .i64 0)) ∧ (wr.heap.size ≤ TB ∧ wr.heap.size ≤ IB ∧ wr.heap.size ≤ OB) ∧ (TB ≠ IB ∧ TB ≠ OB ∧ IB ≠ OB) from ⟨_, _, _, rfl, eX, RT.ext d1, RI.ext d1, RO.ext d1, by omega, by omega⟩)
            clear hHeld KEEP RI RO RT eX d1
            go_wp2_with fail
            go_meet
            exact wy.out
        · go_simp
          refine hK.out _ _ (fun _ => KEEP.out _ (ext_drewN (ext_alloc wr (.cells (madeCells #[.int .i64 0] N) 3)) 1)) (fun hHeld => ?_); replace hHeld := hHeld rfl
          clear hK K
          try simp only [Act.put, List.setIfInBounds_toArray, List.set_cons_zero, List.set_cons_succ]
          refine anyE_two 4 9 rfl rfl (by kernel_rfl) (fun K hK => ?_) (fun K hK => ?_)
          · go_simp
            refine hK.out _ _ (fun _ => KEEP.out _ (ext_drewN (ext_alloc' (ext_alloc wr (.cells (madeCells #[.int .i64 0] N) 3)) (.cells (madeCells #[.int .i64 0] N) 3)) 1)) (fun hHeld => ?_); replace hHeld := hHeld rfl
            clear hK K
            try simp only [Act.put, List.setIfInBounds_toArray, List.set_cons_zero, List.set_cons_succ]
            refine anyE_take 8 (v := ?_) rfl (by kernel_rfl) (fun _ _ _ h => h) (by rfl) ?hy8OIT hHeld ?rest8OIT
            case hy8OIT => (intro w hSw; (try dsimp only at hSw); go_simp; try with_reducible rfl)
            try simp only [Act.put, List.setIfInBounds_toArray, List.set_cons_zero, List.set_cons_succ]
            refine anyE_one 9 rfl (by kernel_rfl) (fun K hK => ?_)
            go_simp
            refine hK.out _ _ (fun _ => KEEP.out _ (ext_drewN (ext_alloc' (ext_alloc' (ext_alloc wr (.cells (madeCells #[.int .i64 0] N) 3)) (.cells (madeCells #[.int .i64 0] N) 3)) (.cells #[.int .i64 0, .slice none 0 0, .slice none 0 0, .int .i64 0, .int .i64 0, .int .i64 0, .int .i64 0, .int .i64 0, .slice none 0 0] 28)) 1)) (fun hHeld => ?_); replace hHeld := hHeld rfl
            clear hK K
            try simp only [Act.put, List.setIfInBounds_toArray, List.set_cons_zero, List.set_cons_succ]
            refine anyE_one 10 rfl (by kernel_rfl) (fun K hK => ?_)
            go_simp
            refine hK.out _ _ (fun _ => KEEP.out _ (ext_drewN (ext_alloc' (ext_alloc' (ext_alloc wr (.cells (madeCells #[.int .i64 0] N) 3)) (.cells (madeCells #[.int .i64 0] N) 3)) (.cells #[.int .i64 N, .slice (some ⟨wr.heap.size + 1, 0, none⟩) N N, .slice (some ⟨wr.heap.size, 0, none⟩) N N, .int .i64 0, .int .i64 0, .int .i64 0, .int .i64 0, .int .i64 0, .slice none 0 0] 28)) 1)) (fun hHeld => ?_); replace hHeld := hHeld rfl
            clear hK K
            try simp only [Act.put, List.setIfInBounds_toArray, List.set_cons_zero, List.set_cons_succ]
            refine anyE_done (by kernel_rfl) ?_ _
            have RO := ((Row.made wr (.int .i64 0) N 3).alloc (.cells (madeCells #[.int .i64 0] N) 3)).alloc (.cells #[.int .i64 N, .slice (some ⟨wr.heap.size + 1, 0, none⟩) N N, .slice (some ⟨wr.heap.size, 0, none⟩) N N, .int .i64 0, .int .i64 0, .int .i64 0, .int .i64 0, .int .i64 0, .slice none 0 0] 28)
            have RI := (Row.made (wr.alloc (.cells (madeCells #[.int .i64 0] N) 3)) (.int .i64 0) N 3).alloc (.cells #[.int .i64 N, .slice (some ⟨wr.heap.size + 1, 0, none⟩) N N, .slice (some ⟨wr.heap.size, 0, none⟩) N N, .int .i64 0, .int .i64 0, .int .i64 0, .int .i64 0, .int .i64 0, .slice none 0 0] 28)
            have RT := row_new ((wr.alloc (.cells (madeCells #[.int .i64 0] N) 3)).alloc (.cells (madeCells #[.int .i64 0] N) 3)) [.int .i64 N, .slice (some ⟨wr.heap.size + 1, 0, none⟩) N N, .slice (some ⟨wr.heap.size, 0, none⟩) N N, .int .i64 0, .int .i64 0, .int .i64 0, .int .i64 0, .int .i64 0, .slice none 0 0] 28
            simp only [World.size_alloc] at RI RO RT
            have eX := (ext_drewN (ext_alloc' (ext_alloc' (ext_alloc wr (.cells (madeCells #[.int .i64 0] N) 3)) (.cells (madeCells #[.int .i64 0] N) 3)) (.cells #[.int .i64 N, .slice (some ⟨wr.heap.size + 1, 0, none⟩) N N, .slice (some ⟨wr.heap.size, 0, none⟩) N N, .int .i64 0, .int .i64 0, .int .i64 0, .int .i64 0, .int .i64 0, .slice none 0 0] 28)) 1)
            have d1 := drewN_below (((wr.alloc (.cells (madeCells #[.int .i64 0] N) 3)).alloc (.cells (madeCells #[.int .i64 0] N) 3)).alloc (.cells #[.int .i64 N, .slice (some ⟨wr.heap.size + 1, 0, none⟩) N N, .slice (some ⟨wr.heap.size, 0, none⟩) N N, .int .i64 0, .int .i64 0, .int .i64 0, .int .i64 0, .int .i64 0, .slice none 0 0] 28)).heap.size (((wr.alloc (.cells (madeCells #[.int .i64 0] N) 3)).alloc (.cells (madeCells #[.int .i64 0] N) 3)).alloc (.cells #[.int .i64 N, .slice (some ⟨wr.heap.size + 1, 0, none⟩) N N, .slice (some ⟨wr.heap.size, 0, none⟩) N N, .int .i64 0, .int .i64 0, .int .i64 0, .int .i64 0, .int .i64 0, .slice none 0 0] 28)) 1
            have wy := Lib.hid (show ∃ TB IB OB, Value.pointer (some ⟨wr.heap.size + 1 + 1, 0, none⟩) = .pointer (some ⟨TB, 0, none⟩) ∧ Below wr.heap.size wr ((((wr.alloc (.cells (madeCells #[.int .i64 0] N) 3)).alloc (.cells (madeCells #[.int .i64 0] N) 3)).alloc (.cells #[.int .i64 N, .slice (some ⟨wr.heap.size + 1, 0, none⟩) N N, .slice (some ⟨wr.heap.size, 0, none⟩) N N, .int .i64 0, .int .i64 0, .int .i64 0, .int .i64 0, .int .i64 0, .slice none 0 0] 28)).drewN 1) ∧ Row ((((wr.alloc (.cells (madeCells #[.int .i64 0] N) 3)).alloc (.cells (madeCells #[.int .i64 0] N) 3)).alloc (.cells #[.int .i64 N, .slice (some ⟨wr.heap.size + 1, 0, none⟩) N N, .slice (some ⟨wr.heap.size, 0, none⟩) N N, .int .i64 0, .int .i64 0, .int .i64 0, .int .i64 0, .int .i64 0, .slice none 0 0] 28)).drewN 1) TB 28 [.int .i64 N, .slice (some ⟨IB, 0, none⟩) N N, .slice (some ⟨OB, 0, none⟩) N N, .int .i64 0, .int .i64 0, .int .i64 0, .int .i64 0, .int .i64 0, .slice none 0 0] ∧ Row ((((wr.alloc (.cells (madeCells #[.int .i64 0] N) 3)).alloc (.cells (madeCells #[.int .i64 0] N) 3)).alloc (.cells #[.int .i64 N, .slice (some ⟨wr.heap.size + 1, 0, none⟩) N N, .slice (some ⟨wr.heap.size, 0, none⟩) N N, .int .i64 0, .int .i64 0, .int .i64 0, .int .i64 0, .int .i64 0, .slice none 0 0] 28)).drewN 1) IB 3 (List.replicate N (.int .i64 0)) ∧ Row ((((wr.alloc (.cells (madeCells #[.int .i64 0] N) 3)).alloc (.cells (madeCells #[.int .i64 0] N) 3)).alloc (.cells #[.int .i64 N, .slice (some ⟨wr.heap.size + 1, 0, none⟩) N N, .slice (some ⟨wr.heap.size, 0, none⟩) N N, .int .i64 0, .int .i64 0, .int .i64 0, .int .i64 0, .int .i64 0, .slice none 0 0] 28)).drewN 1) OB 3 (List.replicate N (.int .i64 0)) ∧ (wr.heap.size ≤ TB ∧ wr.heap.size ≤ IB ∧ wr.heap.size ≤ OB) ∧ (TB ≠ IB ∧ TB ≠ OB ∧ IB ≠ OB) from ⟨_, _, _, rfl, eX, RT.ext d1, RI.ext d1, RO.ext d1, by omega, by omega⟩)
            clear hHeld KEEP RI RO RT eX d1
            go_wp2_with fail
            go_meet
            exact wy.out
          · go_simp
            refine hK.out _ _ (fun _ => KEEP.out _ (ext_drewN (ext_alloc' (ext_alloc wr (.cells (madeCells #[.int .i64 0] N) 3)) (.cells #[.int .i64 0, .slice none 0 0, .slice none 0 0, .int .i64 0, .int .i64 0, .int .i64 0, .int .i64 0, .int .i64 0, .slice none 0 0] 28)) 1)) (fun hHeld => ?_); replace hHeld := hHeld rfl
            clear hK K
            try simp only [Act.put, List.setIfInBounds_toArray, List.set_cons_zero, List.set_cons_succ]
            refine anyE_one 4 rfl (by kernel_rfl) (fun K hK => ?_)
            go_simp
            refine hK.out _ _ (fun _ => KEEP.out _ (ext_drewN (ext_alloc' (ext_alloc' (ext_alloc wr (.cells (madeCells #[.int .i64 0] N) 3)) (.cells #[.int .i64 0, .slice none 0 0, .slice none 0 0, .int .i64 0, .int .i64 0, .int .i64 0, .int .i64 0, .int .i64 0, .slice none 0 0] 28)) (.cells (madeCells #[.int .i64 0] N) 3)) 1)) (fun hHeld => ?_); replace hHeld := hHeld rfl
            clear hK K
            try simp only [Act.put, List.setIfInBounds_toArray, List.set_cons_zero, List.set_cons_succ]
            refine anyE_take 8 (v := ?_) rfl (by kernel_rfl) (fun _ _ _ h => h) (by rfl) ?hy8OTI hHeld ?rest8OTI
            case hy8OTI => (intro w hSw; (try dsimp only at hSw); go_simp; try with_reducible rfl)
            try simp only [Act.put, List.setIfInBounds_toArray, List.set_cons_zero, List.set_cons_succ]
            refine anyE_one 10 rfl (by kernel_rfl) (fun K hK => ?_)
            go_simp
            refine hK.out _ _ (fun _ => KEEP.out _ (ext_drewN (ext_alloc' (ext_alloc' (ext_alloc wr (.cells (madeCells #[.int .i64 0] N) 3)) (.cells #[.int .i64 N, .slice (some ⟨wr.heap.size + 1 + 1, 0, none⟩) N N, .slice (some ⟨wr.heap.size, 0, none⟩) N N, .int .i64 0, .int .i64 0, .int .i64 0, .int .i64 0, .int .i64 0, .slice none 0 0] 28)) (.cells (madeCells #[.int .i64 0] N) 3)) 1)) (fun hHeld => ?_); replace hHeld := hHeld rfl
            clear hK K
            try simp only [Act.put, List.setIfInBounds_toArray, List.set_cons_zero, List.set_cons_succ]
            refine anyE_done (by kernel_rfl) ?_ _
            have RO := ((Row.made wr (.int .i64 0) N 3).alloc (.cells #[.int .i64 N, .slice (some ⟨wr.heap.size + 1 + 1, 0, none⟩) N N, .slice (some ⟨wr.heap.size, 0, none⟩) N N, .int .i64 0, .int .i64 0, .int .i64 0, .int .i64 0, .int .i64 0, .slice none 0 0] 28)).alloc (.cells (madeCells #[.int .i64 0] N) 3)
            have RT := (row_new (wr.alloc (.cells (madeCells #[.int .i64 0] N) 3)) [.int .i64 N, .slice (some ⟨wr.heap.size + 1 + 1, 0, none⟩) N N, .slice (some ⟨wr.heap.size, 0, none⟩) N N, .int .i64 0, .int .i64 0, .int .i64 0, .int .i64 0, .int .i64 0, .slice none 0 0] 28).alloc (.cells (madeCells #[.int .i64 0] N) 3)
            have RI := Row.made ((wr.alloc (.cells (madeCells #[.int .i64 0] N) 3)).alloc (.cells #[.int .i64 N, .slice (some ⟨wr.heap.size + 1 + 1, 0, none⟩) N N, .slice (some ⟨wr.heap.size, 0, none⟩) N N, .int .i64 0, .int .i64 0, .int .i64 0, .int .i64 0, .int .i64 0, .slice none 0 0] 28)) (.int .i64 0) N 3
            simp only [World.size_alloc] at RI RO RT
            have eX := (ext_drewN (ext_alloc' (ext_alloc' (ext_alloc wr (.cells (madeCells #[.int .i64 0] N) 3)) (.cells #[.int .i64 N, .slice (some ⟨wr.heap.size + 1 + 1, 0, none⟩) N N, .slice (some ⟨wr.heap.size, 0, none⟩) N N, .int .i64 0, .int .i64 0, .int .i64 0, .int .i64 0, .int .i64 0, .slice none 0 0] 28)) (.cells (madeCells #[.int .i64 0] N) 3)) 1)
            have d1 := drewN_below (((wr.alloc (.cells (madeCells #[.int .i64 0] N) 3)).alloc (.cells #[.int .i64 N, .slice (some ⟨wr.heap.size + 1 + 1, 0, none⟩) N N, .slice (some ⟨wr.heap.size, 0, none⟩) N N, .int .i64 0, .int .i64 0, .int .i64 0, .int .i64 0, .int .i64 0, .slice none 0 0] 28)).alloc (.cells (madeCells #[.int .i64 0] N) 3)).heap.size (((wr.alloc (.cells (madeCells #[.int .i64 0] N) 3)).alloc (.cells #[.int .i64 N, .slice (some ⟨wr.heap.size + 1 + 1, 0, none⟩) N N, .slice (some ⟨wr.heap.size, 0, none⟩) N N, .int .i64 0, .int .i64 0, .int .i64 0, .int .i64 0, .int .i64 0, .slice none 0 0] 28)).alloc (.cells (madeCells #[.int .i64 0] N) 3)) 1
            have wy := Lib.hid (show ∃ TB IB OB, Value.pointer (some ⟨wr.heap.size + 1, 0, none⟩) = .pointer (some ⟨TB, 0, none⟩) ∧ Below wr.heap.size wr ((((wr.alloc (.cells (madeCells #[.int .i64 0] N) 3)).alloc (.cells #[.int .i64 N, .slice (some ⟨wr.heap.size + 1 + 1, 0, none⟩) N N, .slice (some ⟨wr.heap.size, 0, none⟩) N N, .int .i64 0, .int .i64 0, .int .i64 0, .int .i64 0, .int .i64 0, .slice none 0 0] 28)).alloc (.cells (madeCells #[.int .i64 0] N) 3)).drewN 1) ∧ Row ((((wr.alloc (.cells (madeCells #[.int .i64 0] N) 3)).alloc (.cells #[.int .i64 N, .slice (some ⟨wr.heap.size + 1 + 1, 0, none⟩) N N, .slice (some ⟨wr.heap.size, 0, none⟩) N N, .int .i64 0, .int .i64 0, .int .i64 0, .int .i64 0, .int .i64 0, .slice none 0 0] 28)).alloc (.cells (madeCells #[.int .i64 0] N) 3)).drewN 1) TB 28 [.int .i64 N, .slice (some ⟨IB, 0, none⟩) N N, .slice (some ⟨OB, 0, none⟩) N N, .int .i64 0, .int .i64 0, .int .i64 0, .int .i64 0, .int .i64 0, .slice none 0 0] ∧ Row ((((wr.alloc (.cells (madeCells #[.int .i64 0] N) 3)).alloc (.cells #[.int .i64 N, .slice (some ⟨wr.heap.size + 1 + 1, 0, none⟩) N N, .slice (some ⟨wr.heap.size, 0, none⟩) N N, .int .i64 0, .int .i64 0, .int .i64 0, .int .i64 0, .int .i64 0, .slice none 0 0] 28)).alloc (.cells (madeCells #[.int .i64 0] N) 3)).drewN 1) IB 3 (List.replicate N (.int .i64 0)) ∧ Row ((((wr.alloc (.cells (madeCells #[.int .i64 0] N) 3)).alloc (.cells #[.int .i64 N, .slice (some ⟨wr.heap.size + 1 + 1, 0, none⟩) N N, .slice (some ⟨wr.heap.size, 0, none⟩) N N, .int .i64 0, .int .i64 0, .int .i64 0, .int .i64 0, .int .i64 0, .slice none 0 0] 28)).alloc (.cells (madeCells #[.int .i64 0] N) 3)).drewN 1) OB 3 (List.replicate N (.int .i64 0)) ∧ (wr.heap.size ≤ TB ∧ wr.heap.size ≤ IB ∧ wr.heap.size ≤ OB) ∧ (TB ≠ IB ∧ TB ≠ OB ∧ IB ≠ OB) from ⟨_, _, _, rfl, eX, RT.ext d1, RI.ext d1, RO.ext d1, by omega, by omega⟩)
            clear hHeld KEEP RI RO RT eX d1
            go_wp2_with fail
            go_meet
            exact wy.out
        · go_simp
          refine hK.out _ _ (fun _ => KEEP.out _ (ext_drewN (ext_alloc wr (.cells #[.int .i64 0, .slice none 0 0, .slice none 0 0, .int .i64 0, .int .i64 0, .int .i64 0, .int .i64 0, .int .i64 0, .slice none 0 0] 28)) 1)) (fun hHeld => ?_); replace hHeld := hHeld rfl
          clear hK K
          try simp only [Act.put, List.setIfInBounds_toArray, List.set_cons_zero, List.set_cons_succ]
          refine anyE_two 4 7 rfl rfl (by kernel_rfl) (fun K hK => ?_) (fun K hK => ?_)
          · go_simp
            refine hK.out _ _ (fun _ => KEEP.out _ (ext_drewN (ext_alloc' (ext_alloc wr (.cells #[.int .i64 0, .slice none 0 0, .slice none 0 0, .int .i64 0, .int .i64 0, .int .i64 0, .int .i64 0, .int .i64 0, .slice none 0 0] 28)) (.cells (madeCells #[.int .i64 0] N) 3)) 1)) (fun hHeld => ?_); replace hHeld := hHeld rfl
            clear hK K
            try simp only [Act.put, List.setIfInBounds_toArray, List.set_cons_zero, List.set_cons_succ]
            refine anyE_one 7 rfl (by kernel_rfl) (fun K hK => ?_)
            go_simp
            refine hK.out _ _ (fun _ => KEEP.out _ (ext_drewN (ext_alloc' (ext_alloc' (ext_alloc wr (.cells #[.int .i64 0, .slice none 0 0, .slice none 0 0, .int .i64 0, .int .i64 0, .int .i64 0, .int .i64 0, .int .i64 0, .slice none 0 0] 28)) (.cells (madeCells #[.int .i64 0] N) 3)) (.cells (madeCells #[.int .i64 0] N) 3)) 1)) (fun hHeld => ?_); replace hHeld := hHeld rfl
            clear hK K
            try simp only [Act.put, List.setIfInBounds_toArray, List.set_cons_zero, List.set_cons_succ]
            refine anyE_take 8 (v := ?_) rfl (by kernel_rfl) (fun _ _ _ h => h) (by rfl) ?hy8TIO hHeld ?rest8TIO
            case hy8TIO => (intro w hSw; (try dsimp only at hSw); go_simp; try with_reducible rfl)
            try simp only [Act.put, List.setIfInBounds_toArray, List.set_cons_zero, List.set_cons_succ]
            refine anyE_one 10 rfl (by kernel_rfl) (fun K hK => ?_)
            go_simp
            refine hK.out _ _ (fun _ => KEEP.out _ (ext_drewN (ext_alloc' (ext_alloc' (ext_alloc wr (.cells #[.int .i64 N, .slice (some ⟨wr.heap.size + 1, 0, none⟩) N N, .slice (some ⟨wr.heap.size + 1 + 1, 0, none⟩) N N, .int .i64 0, .int .i64 0, .int .i64 0, .int .i64 0, .int .i64 0, .slice none 0 0] 28)) (.cells (madeCells #[.int .i64 0] N) 3)) (.cells (madeCells #[.int .i64 0] N) 3)) 1)) (fun hHeld => ?_); replace hHeld := hHeld rfl
            clear hK K
            try simp only [Act.put, List.setIfInBounds_toArray, List.set_cons_zero, List.set_cons_succ]
            refine anyE_done (by kernel_rfl) ?_ _
            have RT := ((row_new wr [.int .i64 N, .slice (some ⟨wr.heap.size + 1, 0, none⟩) N N, .slice (some ⟨wr.heap.size + 1 + 1, 0, none⟩) N N, .int .i64 0, .int .i64 0, .int .i64 0, .int .i64 0, .int .i64 0, .slice none 0 0] 28).alloc (.cells (madeCells #[.int .i64 0] N) 3)).alloc (.cells (madeCells #[.int .i64 0] N) 3)
            have RI := (Row.made (wr.alloc (.cells #[.int .i64 N, .slice (some ⟨wr.heap.size + 1, 0, none⟩) N N, .slice (some ⟨wr.heap.size + 1 + 1, 0, none⟩) N N, .int .i64 0, .int .i64 0, .int .i64 0, .int .i64 0, .int .i64 0, .slice none 0 0] 28)) (.int .i64 0) N 3).alloc (.cells (madeCells #[.int .i64 0] N) 3)
            have RO := Row.made ((wr.alloc (.cells #[.int .i64 N, .slice (some ⟨wr.heap.size + 1, 0, none⟩) N N, .slice (some ⟨wr.heap.size + 1 + 1, 0, none⟩) N N, .int .i64 0, .int .i64 0, .int .i64 0, .int .i64 0, .int .i64 0, .slice none 0 0] 28)).alloc (.cells (madeCells #[.int .i64 0] N) 3)) (.int .i64 0) N 3
            simp only [World.size_alloc] at RI RO RT
            have eX := (ext_drewN (ext_alloc' (ext_alloc' (ext_alloc wr (.cells #[.int .i64 N, .slice (some ⟨wr.heap.size + 1, 0, none⟩) N N, .slice (some ⟨wr.heap.size + 1 + 1, 0, none⟩) N N, .int .i64 0, .int .i64 0, .int .i64 0, .int .i64 0, .int .i64 0, .slice none 0 0] 28)) (.cells (madeCells #[.int .i64 0] N) 3)) (.cells (madeCells #[.int .i64 0] N) 3)) 1)
            have d1 := drewN_below (((wr.alloc (.cells #[.int .i64 N, .slice (some ⟨wr.heap.size + 1, 0, none⟩) N N, .slice (some ⟨wr.heap.size + 1 + 1, 0, none⟩) N N, .int .i64 0, .int .i64 0, .int .i64 0, .int .i64 0, .int .i64 0, .slice none 0 0] 28)).alloc (.cells (madeCells #[.int .i64 0] N) 3)).alloc (.cells (madeCells #[.int .i64 0] N) 3)).heap.size (((wr.alloc (.cells #[.int .i64 N, .slice (some ⟨wr.heap.size + 1, 0, none⟩) N N, .slice (some ⟨wr.heap.size + 1 + 1, 0, none⟩) N N, .int .i64 0, .int .i64 0, .int .i64 0, .int .i64 0, .int .i64 0, .slice none 0 0] 28)).alloc (.cells (madeCells #[.int .i64 0] N) 3)).alloc (.cells (madeCells #[.int .i64 0] N) 3)) 1
            have wy := Lib.hid (show ∃ TB IB OB, Value.pointer (some ⟨wr.heap.size, 0, none⟩) = .pointer (some ⟨TB, 0, none⟩) ∧ Below wr.heap.size wr ((((wr.alloc (.cells #[.int .i64 N, .slice (some ⟨wr.heap.size + 1, 0, none⟩) N N, .slice (some ⟨wr.heap.size + 1 + 1, 0, none⟩) N N, .int .i64 0, .int .i64 0, .int .i64 0, .int .i64 0, .int .i64 0, .slice none 0 0] 28)).alloc (.cells (madeCells #[.int .i64 0] N) 3)).alloc (.cells (madeCells #[.int .i64 0] N) 3)).drewN 1) ∧ Row ((((wr.alloc (.cells #[.int .i64 N, .slice (some ⟨wr.heap.size + 1, 0, none⟩) N N, .slice (some ⟨wr.heap.size + 1 + 1, 0, none⟩) N N, .int .i64 0, .int .i64 0, .int .i64 0, .int .i64 0, .int .i64 0, .slice none 0 0] 28)).alloc (.cells (madeCells #[.int .i64 0] N) 3)).alloc (.cells (madeCells #[.int .i64 0] N) 3)).drewN 1) TB 28 [.int .i64 N, .slice (some ⟨IB, 0, none⟩) N N, .slice (some ⟨OB, 0, none⟩) N N, .int .i64 0, .int .i64 0, .int .i64 0, .int .i64 0, .int .i64 0, .slice none 0 0] ∧ Row ((((wr.alloc (.cells #[.int .i64 N, .slice (some ⟨wr.heap.size + 1, 0, none⟩) N N, .slice (some ⟨wr.heap.size + 1 + 1, 0, none⟩) N N, .int .i64 0, .int .i64 0, .int .i64 0, .int .i64 0, .int .i64 0, .slice none 0 0] 28)).alloc (.cells (madeCells #[.int .i64 0] N) 3)).alloc (.cells (madeCells #[.int .i64 0] N) 3)).drewN 1) IB 3 (List.replicate N (.int .i64 0)) ∧ Row ((((wr.alloc (.cells #[.int .i64 N, .slice (some ⟨wr.heap.size + 1, 0, none⟩) N N, .slice (some ⟨wr.heap.size + 1 + 1, 0, none⟩) N N, .int .i64 0, .int .i64 0, .int .i64 0, .int .i64 0, .int .i64 0, .slice none 0 0] 28)).alloc (.cells (madeCells #[.int .i64 0] N) 3)).alloc (.cells (madeCells #[.int .i64 0] N) 3)).drewN 1) OB 3 (List.replicate N (.int .i64 0)) ∧ (wr.heap.size ≤ TB ∧ wr.heap.size ≤ IB ∧ wr.heap.size ≤ OB) ∧ (TB ≠ IB ∧ TB ≠ OB ∧ IB ≠ OB) from ⟨_, _, _, rfl, eX, RT.ext d1, RI.ext d1, RO.ext d1, by omega, by omega⟩)
            clear hHeld KEEP RI RO RT eX d1
            go_wp2_with fail
            go_meet
            exact wy.out
          · go_simp
            refine hK.out _ _ (fun _ => KEEP.out _ (ext_drewN (ext_alloc' (ext_alloc wr (.cells #[.int .i64 0, .slice none 0 0, .slice none 0 0, .int .i64 0, .int .i64 0, .int .i64 0, .int .i64 0, .int .i64 0, .slice none 0 0] 28)) (.cells (madeCells #[.int .i64 0] N) 3)) 1)) (fun hHeld => ?_); replace hHeld := hHeld rfl
            clear hK K
            try simp only [Act.put, List.setIfInBounds_toArray, List.set_cons_zero, List.set_cons_succ]
            refine anyE_one 4 rfl (by kernel_rfl) (fun K hK => ?_)
            go_simp
            refine hK.out _ _ (fun _ => KEEP.out _ (ext_drewN (ext_alloc' (ext_alloc' (ext_alloc wr (.cells #[.int .i64 0, .slice none 0 0, .slice none 0 0, .int .i64 0, .int .i64 0, .int .i64 0, .int .i64 0, .int .i64 0, .slice none 0 0] 28)) (.cells (madeCells #[.int .i64 0] N) 3)) (.cells (madeCells #[.int .i64 0] N) 3)) 1)) (fun hHeld => ?_); replace hHeld := hHeld rfl
            clear hK K
            try simp only [Act.put, List.setIfInBounds_toArray, List.set_cons_zero, List.set_cons_succ]
            refine anyE_take 8 (v := ?_) rfl (by kernel_rfl) (fun _ _ _ h => h) (by rfl) ?hy8TOI hHeld ?rest8TOI
            case hy8TOI => (intro w hSw; (try dsimp only at hSw); go_simp; try with_reducible rfl)
            try simp only [Act.put, List.setIfInBounds_toArray, List.set_cons_zero, List.set_cons_succ]
            refine anyE_one 10 rfl (by kernel_rfl) (fun K hK => ?_)
            go_simp
            refine hK.out _ _ (fun _ => KEEP.out _ (ext_drewN (ext_alloc' (ext_alloc' (ext_alloc wr (.cells #[.int .i64 N, .slice (some ⟨wr.heap.size + 1 + 1, 0, none⟩) N N, .slice (some ⟨wr.heap.size + 1, 0, none⟩) N N, .int .i64 0, .int .i64 0, .int .i64 0, .int .i64 0, .int .i64 0, .slice none 0 0] 28)) (.cells (madeCells #[.int .i64 0] N) 3)) (.cells (madeCells #[.int .i64 0] N) 3)) 1)) (fun hHeld => ?_); replace hHeld := hHeld rfl
            clear hK K
            try simp only [Act.put, List.setIfInBounds_toArray, List.set_cons_zero, List.set_cons_succ]
            refine anyE_done (by kernel_rfl) ?_ _
            have RT := ((row_new wr [.int .i64 N, .slice (some ⟨wr.heap.size + 1 + 1, 0, none⟩) N N, .slice (some ⟨wr.heap.size + 1, 0, none⟩) N N, .int .i64 0, .int .i64 0, .int .i64 0, .int .i64 0, .int .i64 0, .slice none 0 0] 28).alloc (.cells (madeCells #[.int .i64 0] N) 3)).alloc (.cells (madeCells #[.int .i64 0] N) 3)
            have RO := (Row.made (wr.alloc (.cells #[.int .i64 N, .slice (some ⟨wr.heap.size + 1 + 1, 0, none⟩) N N, .slice (some ⟨wr.heap.size + 1, 0, none⟩) N N, .int .i64 0, .int .i64 0, .int .i64 0, .int .i64 0, .int .i64 0, .slice none 0 0] 28)) (.int .i64 0) N 3).alloc (.cells (madeCells #[.int .i64 0] N) 3)
            have RI := Row.made ((wr.alloc (.cells #[.int .i64 N, .slice (some ⟨wr.heap.size + 1 + 1, 0, none⟩) N N, .slice (some ⟨wr.heap.size + 1, 0, none⟩) N N, .int .i64 0, .int .i64 0, .int .i64 0, .int .i64 0, .int .i64 0, .slice none 0 0] 28)).alloc (.cells (madeCells #[.int .i64 0] N) 3)) (.int .i64 0) N 3
            simp only [World.size_alloc] at RI RO RT
            have eX := (ext_drewN (ext_alloc' (ext_alloc' (ext_alloc wr (.cells #[.int .i64 N, .slice (some ⟨wr.heap.size + 1 + 1, 0, none⟩) N N, .slice (some ⟨wr.heap.size + 1, 0, none⟩) N N, .int .i64 0, .int .i64 0, .int .i64 0, .int .i64 0, .int .i64 0, .slice none 0 0] 28)) (.cells (madeCells #[.int .i64 0] N) 3)) (.cells (madeCells #[.int .i64 0] N) 3)) 1)
            have d1 := drewN_below (((wr.alloc (.cells #[.int .i64 N, .slice (some ⟨wr.heap.size + 1 + 1, 0, none⟩) N N, .slice (some ⟨wr.heap.size + 1, 0, none⟩) N N, .int .i64 0, .int .i64 0, .int .i64 0, .int .i64 0, .int .i64 0, .slice none 0 0] 28)).alloc (.cells (madeCells #[.int .i64 0] N) 3)).alloc (.cells (madeCells #[.int .i64 0] N) 3)).heap.size (((wr.alloc (.cells #[.int .i64 N, .slice (some ⟨wr.heap.size + 1 + 1, 0, none⟩) N N, .slice (some ⟨wr.heap.size + 1, 0, none⟩) N N, .int .i64 0, .int .i64 0, .int .i64 0, .int .i64 0, .int .i64 0, .slice none 0 0] 28)).alloc (.cells (madeCells #[.int .i64 0] N) 3)).alloc (.cells (madeCells #[.int .i64 0] N) 3)) 1
            have wy := Lib.hid (show ∃ TB IB OB, Value.pointer (some ⟨wr.heap.size, 0, none⟩) = .pointer (some ⟨TB, 0, none⟩) ∧ Below wr.heap.size wr ((((wr.alloc (.cells #[.int .i64 N, .slice (some ⟨wr.heap.size + 1 + 1, 0, none⟩) N N, .slice (some ⟨wr.heap.size + 1, 0, none⟩) N N, .int .i64 0, .int .i64 0, .int .i64 0, .int .i64 0, .int .i64 0, .slice none 0 0] 28)).alloc (.cells (madeCells #[.int .i64 0] N) 3)).alloc (.cells (madeCells #[.int .i64 0] N) 3)).drewN 1) ∧ Row ((((wr.alloc (.cells #[.int .i64 N, .slice (some ⟨wr.heap.size + 1 + 1, 0, none⟩) N N, .slice (some ⟨wr.heap.size + 1, 0, none⟩) N N, .int .i64 0, .int .i64 0, .int .i64 0, .int .i64 0, .int .i64 0, .slice none 0 0] 28)).alloc (.cells (madeCells #[.int .i64 0] N) 3)).alloc (.cells (madeCells #[.int .i64 0] N) 3)).drewN 1) TB 28 [.int .i64 N, .slice (some ⟨IB, 0, none⟩) N N, .slice (some ⟨OB, 0, none⟩) N N, .int .i64 0, .int .i64 0, .int .i64 0, .int .i64 0, .int .i64 0, .slice none 0 0] ∧ Row ((((wr.alloc (.cells #[.int .i64 N, .slice (some ⟨wr.heap.size + 1 + 1, 0, none⟩) N N, .slice (some ⟨wr.heap.size + 1, 0, none⟩) N N, .int .i64 0, .int .i64 0, .int .i64 0, .int .i64 0, .int .i64 0, .slice none 0 0] 28)).alloc (.cells (madeCells #[.int .i64 0] N) 3)).alloc (.cells (madeCells #[.int .i64 0] N) 3)).drewN 1) IB 3 (List.replicate N (.int .i64 0)) ∧ Row ((((wr.alloc (.cells #[.int .i64 N, .slice (some ⟨wr.heap.size + 1 + 1, 0, none⟩) N N, .slice (some ⟨wr.heap.size + 1, 0, none⟩) N N, .int .i64 0, .int .i64 0, .int .i64 0, .int .i64 0, .int .i64 0, .slice none 0 0] 28)).alloc (.cells (madeCells #[.int .i64 0] N) 3)).alloc (.cells (madeCells #[.int .i64 0] N) 3)).drewN 1) OB 3 (List.replicate N (.int .i64 0)) ∧ (wr.heap.size ≤ TB ∧ wr.heap.size ≤ IB ∧ wr.heap.size ≤ OB) ∧ (TB ≠ IB ∧ TB ≠ OB ∧ IB ≠ OB) from ⟨_, _, _, rfl, eX, RT.ext d1, RI.ext d1, RO.ext d1, by omega, by omega⟩)
            clear hHeld KEEP RI RO RT eX d1
            go_wp2_with fail
            go_meet
            exact wy.out
      case rest =>
        obtain ⟨TB, IB, OB, rfl, hbx, RT, RI, RO, ⟨hT0, hI0, hO0⟩, ⟨hTI, hTO, hIO⟩⟩ := hcut
        clear KEEP hmk
        obtain ⟨w5, hw5⟩ : ∃ wx : World, wx = wc := ⟨_, rfl⟩
        rw [← hw5] at hbx RT RI RO ⊢
        clear hw5
        obtain ⟨B5, hB5⟩ : ∃ b, b = wr.heap.size := ⟨_, rfl⟩
        have y5 : Below PB w3 w5 := y3.trans (hbx.mono (Nat.le_of_lt RP.lt))
        have T5 := ext_trans y3x hbx
        have HS5 := Lib.hid (HSS.out.ext T5)
        have hi5 := (((HI.out.ext y3x).boundP).ext hbx)
        have ho5 := (((HO.out.ext y3x).boundP).ext hbx)
        have RP5 := RP.ext hbx
        have hPB5 : PB < B5 := by rw [hB5]; exact RP.lt
        rw [← hB5] at hT0 hI0 hO0 hi5 ho5
        have HE0 := Lib.hid E0.out
        have HEW : Hid (∀ W, Below B5 w5 W → Below w.heap.size w W) := Lib.hid fun W hW => (ext_trans E0.out T5).trans (hW.mono (Nat.le_trans (ext_trans E0.out y3x).size (Nat.le_of_eq hB5.symm)))
        have HTW : Hid (∀ W, Below B5 w5 W → Below w0.heap.size w0 W) := Lib.hid fun W hW => T5.trans (hW.mono (Nat.le_trans y3x.size (Nat.le_of_eq hB5.symm)))
        have HIW : Hid (∀ W, Below B5 w5 W → Ints (fun b => b < B5) W (.slice ia I icap) s.inl) := Lib.hid fun W hW => (hi5.agree (.of_below hW fun b hb _ => hb.2)).mono fun b hb => hb.2
        have HOW : Hid (∀ W, Below B5 w5 W → Ints (fun b => b < B5) W (.slice oa O ocap) s.outl) := Lib.hid fun W hW => (ho5.agree (.of_below hW fun b hb _ => hb.2)).mono fun b hb => hb.2
        have HRX : Hid (∀ W, Below B5 w5 W → Row W w.heap.size 24 [.int .i64 e.op, .int .i64 e.num, .slice a e.args.length cap] ∧ Row W (w.heap.size + 1) 28 [.int .i64 N, .slice ia I icap, .slice oa O ocap, .int .i64 h0, .int .i64 h1, .int .i64 h2, .int .i64 h3, .int .i64 h4, .slice va V vcap] ∧ Row W PB 3 (L.map (Value.int .i64))) := Lib.hid fun W hW => by
          obtain ⟨r1, r2, _⟩ := HRW.out _ y5
          have hr1 := r1.lt
          exact ⟨r1.agree (S := fun b => b < B5) (.of_below hW fun b hb _ => hb) (by omega), r2.agree (S := fun b => b < B5) (.of_below hW fun b hb _ => hb) (by omega), RP5.agree (S := fun b => b < B5) (.of_below hW fun b hb _ => hb) hPB5⟩
        have RT5 : Row w5 TB 28 (scC N (.slice (some ⟨IB, 0, none⟩) N N) (.slice (some ⟨OB, 0, none⟩) N N) [0, 0, 0, 0, 0] (.slice none 0 0)) := RT
        rw [show List.replicate N (Value.int .i64 0) = (List.replicate N (0 : Int)).map (Value.int .i64) by simp] at RI RO
        have y7 := Below.refl B5 w5
        have HPI : Hid (PermI s N (L.take N) 0 (List.replicate N 0) (List.replicate N 0) [0, 0, 0, 0, 0]) := Lib.hid PermI.zero
        clear hbx RT RP y3 y3x hB5 hi5 ho5 T5 RP5 y5 hlt hk
        go_wp2
        go_loopw [11, 12, 13, 14, 93, 118] (fun _ _ _ _ pv _ wr => ∃ (p : Nat) (A B H : List Int), p ≤ N ∧ pv = .int .i64 p ∧ Hid (PermI s N (L.take N) p A B H) ∧ Below B5 w5 wr ∧ Row wr TB 28 (scC N (.slice (some ⟨IB, 0, none⟩) N N) (.slice (some ⟨OB, 0, none⟩) N N) H (.slice none 0 0)) ∧ Row wr IB 3 (A.map (Value.int .i64)) ∧ Row wr OB 3 (B.map (Value.int .i64))) (fun _ _ _ _ pv _ _ => N - (intOf pv).toNat)
        case atStart => exact ⟨0, _, _, _, by omega, rfl, HPI, y7, RT5, RI, RO⟩
        case round =>
          clear y7 RT5 RI RO HPI
          obtain ⟨p, A, B, H, hp, rfl, HPI, y7, RT, RI, RO⟩ := hrel
          by_cases hlp : p < N
          case neg =>
            have epN : p = N := by omega
            rw [epN] at HPI
            obtain ⟨g0, g1, g2, g3, g4, rfl⟩ := five HPI.out.lh
            have hIs : s.inl.length = N := by rw [← HNV.out.2.2.1, HIN.out]
            have hOs : s.outl.length = N := by rw [← HNV.out.2.2.2, HON.out]
            have hvs : s.vars = [] := List.length_eq_zero_iff.1 (by have := HNV.out.2.1; have := HVZ.out; omega)
            obtain ⟨E1, E2⟩ := eval_perm HPI.out HPM.out hN1 hN5 HNV.out.1.symm hIs hOs hvs HOK.out HBD.out HCK.out HC.out.symm
            obtain ⟨ra, rb⟩ := perm_ranged HPI.out HPM.out hIs hOs HOK.out
            have TW := HTW.out _ y7
            have iA := RI.ints (by rw [HPI.out.la]; unfold maxLen; omega) (fun x hx => WF.small (by have := small_iff.1 (ra x hx); omega))
            have iB := RO.ints (by rw [HPI.out.lb]; unfold maxLen; omega) (fun x hx => WF.small (by have := small_iff.1 (rb x hx); omega))
            rw [HPI.out.la] at iA
            rw [HPI.out.lb] at iB
            have hST : ScV (fun _ => True) wr { n := N, inl := A, outl := B, hears := [g0, g1, g2, g3, g4], vars := [] } (.agg #[.int .i64 N, .slice (some ⟨IB, 0, none⟩) N N, .slice (some ⟨OB, 0, none⟩) N N, .int .i64 g0, .int .i64 g1, .int .i64 g2, .int .i64 g3, .int .i64 g4, .slice none 0 0]) := ⟨_, _, _, _, _, _, _, _, rfl, rfl, iA.mono fun _ _ => trivial, iB.mono fun _ _ => trivial, Ints.nil _ _⟩
            obtain ⟨z, hz⟩ : ∃ z, z = valE s e [] := ⟨_, rfl⟩
            rw [← hz] at E1 E2
            have KV1 := Lib.hid (evalV_calls (HTB.out.ext TW) (HEE.out.ext TW) (HSS.out.ext TW) E1 (by omega))
            have HST2 := Lib.hid hST
            have KV2 := Lib.hid (fun W (hW : Below wr.heap.size wr W) => evalV_calls (HTB.out.ext (ext_trans TW hW)) (HEE.out.ext (ext_trans TW hW)) (HST2.out.ext hW) E2 (by omega))
            obtain ⟨rE, rS, _⟩ := HRX.out _ y7
            have T0 := TW
            clear hz E1 E2 ra rb iA iB hST TW hIs hOs hvs
            have cx0 := rE.cell (j := 0) rfl
            have cx1 := rE.cell (j := 1) rfl
            have cx2 := rE.cell (j := 2) rfl
            have lrE := rE.lt
            have cy0 := rS.cell (j := 0) rfl
            have cy1 := rS.cell (j := 1) rfl
            have cy2 := rS.cell (j := 2) rfl
            have cy3 := rS.cell (j := 3) rfl
            have cy4 := rS.cell (j := 4) rfl
            have cy5 := rS.cell (j := 5) rfl
            have cy6 := rS.cell (j := 6) rfl
            have cy7 := rS.cell (j := 7) rfl
            have cy8 := rS.cell (j := 8) rfl
            have lrS := rS.lt
            have RTx : Row _ TB 28 [.int .i64 N, .slice (some ⟨IB, 0, none⟩) N N, .slice (some ⟨OB, 0, none⟩) N N, .int .i64 g0, .int .i64 g1, .int .i64 g2, .int .i64 g3, .int .i64 g4, .slice none 0 0] := RT
            have ct0 := RTx.cell (j := 0) rfl
            have ct1 := RTx.cell (j := 1) rfl
            have ct2 := RTx.cell (j := 2) rfl
            have ct3 := RTx.cell (j := 3) rfl
            have ct4 := RTx.cell (j := 4) rfl
            have ct5 := RTx.cell (j := 5) rfl
            have ct6 := RTx.cell (j := 6) rfl
            have ct7 := RTx.cell (j := 7) rfl
            have ct8 := RTx.cell (j := 8) rfl
            have lRT := RT.lt
            clear RTx
            go_wp2_with fail
            refine KV1.out.mono ?_
            rintro _ w20 ⟨_, rfl, hb, rfl⟩
            replace rE := rE.ext hb
            replace rS := rS.ext hb
            replace RT := RT.ext hb
            replace T0 := ext_trans T0 hb
            have KV3 := Lib.hid (KV2.out _ hb)
            clear hb KV1 cx0 cx1 cx2 lrE cy0 cy1 cy2 cy3 cy4 cy5 cy6 cy7 cy8 lrS ct0 ct1 ct2 ct3 ct4 ct5 ct6 ct7 ct8 lRT
            have cx0 := rE.cell (j := 0) rfl
            have cx1 := rE.cell (j := 1) rfl
            have cx2 := rE.cell (j := 2) rfl
            have lrE := rE.lt
            have cy0 := rS.cell (j := 0) rfl
            have cy1 := rS.cell (j := 1) rfl
            have cy2 := rS.cell (j := 2) rfl
            have cy3 := rS.cell (j := 3) rfl
            have cy4 := rS.cell (j := 4) rfl
            have cy5 := rS.cell (j := 5) rfl
            have cy6 := rS.cell (j := 6) rfl
            have cy7 := rS.cell (j := 7) rfl
            have cy8 := rS.cell (j := 8) rfl
            have lrS := rS.lt
            have RTx : Row _ TB 28 [.int .i64 N, .slice (some ⟨IB, 0, none⟩) N N, .slice (some ⟨OB, 0, none⟩) N N, .int .i64 g0, .int .i64 g1, .int .i64 g2, .int .i64 g3, .int .i64 g4, .slice none 0 0] := RT
            have ct0 := RTx.cell (j := 0) rfl
            have ct1 := RTx.cell (j := 1) rfl
            have ct2 := RTx.cell (j := 2) rfl
            have ct3 := RTx.cell (j := 3) rfl
            have ct4 := RTx.cell (j := 4) rfl
            have ct5 := RTx.cell (j := 5) rfl
            have ct6 := RTx.cell (j := 6) rfl
            have ct7 := RTx.cell (j := 7) rfl
            have ct8 := RTx.cell (j := 8) rfl
            have lRT := RT.lt
            clear RTx
            go_wp2_with fail
            refine KV3.out.mono ?_
            rintro _ w21 ⟨_, rfl, hb, rfl⟩
            replace T0 := ext_trans T0 hb
            clear hb KV3 cx0 cx1 cx2 lrE cy0 cy1 cy2 cy3 cy4 cy5 cy6 cy7 cy8 lrS ct0 ct1 ct2 ct3 ct4 ct5 ct6 ct7 ct8 lRT rE rS RT
            have dz : (z == z) = true := by simp
            go_wp2_with fail
            refine (AW.out _ T0).mono ?_
            rintro _ w99 ⟨_, rfl, hb, rfl⟩
            have HE9 := Lib.hid (ext_trans E0.out (ext_trans T0 hb))
            clear hb T0
            go_wp2
            go_ret
            exact .mk HE9.out rfl
          obtain ⟨q, hqN, hqL, hqT⟩ := pi_at (by omega) HPM.out hlp
          obtain ⟨rE, rS, rP⟩ := HRX.out _ y7
          have hIL := HIW.out _ y7
          have hOL := HOW.out _ y7
          have cp := rowInt rP (k := p) (by omega)
          rw [hqL] at cp
          have qp := idx_own PB N 5 hlp
          have lp := rP.lt
          have ci := hIL.cellN (k := p) (by rw [← HNV.out.2.2.1, HIN.out]; exact hlp)
          have co := hOL.cellN (k := p) (by rw [← HNV.out.2.2.2, HON.out]; exact hlp)
          have qi := hIL.idx (k := p) (by rw [← HNV.out.2.2.1, HIN.out]; exact hlp)
          have qo := hOL.idx (k := p) (by rw [← HNV.out.2.2.2, HON.out]; exact hlp)
          obtain ⟨si, hsi⟩ : ∃ x, x = nth s.inl p := ⟨_, rfl⟩
          obtain ⟨so, hso⟩ : ∃ x, x = nth s.outl p := ⟨_, rfl⟩
          rw [← hsi] at ci
          rw [← hso] at co
          have bi := World.block_lt_of_cell? _ _ ci
          have bo := World.block_lt_of_cell? _ _ co
          have HSIO := Lib.hid (And.intro hsi (And.intro hso (And.intro hqL hqT)))
          have s1 := rS.cell (j := 1) rfl
          have s2 := rS.cell (j := 2) rfl
          have lS := rS.lt
          have t1 := RT.cell (j := 1) rfl
          have t2 := RT.cell (j := 2) rfl
          have lT := RT.lt
          have qI := idx_own IB N N hqN
          have qO := idx_own OB N N hqN
          have hIs : s.inl.length = N := by rw [← HNV.out.2.2.1, HIN.out]
          have hOs : s.outl.length = N := by rw [← HNV.out.2.2.2, HON.out]
          have hLI := HPI.out.la
          have hLB := HPI.out.lb
          have KEEP : Hid (∀ w', Agree (fun b => b ≠ IB ∧ b ≠ OB) wr w' → (fun w' : World => w'.cell? ⟨TB, 1, none⟩ = some (.slice (some ⟨IB, 0, none⟩) N N) ∧ w'.cell? ⟨TB, 2, none⟩ = some (.slice (some ⟨OB, 0, none⟩) N N) ∧ w'.cell? ⟨w.heap.size + 1, 1, none⟩ = some (.slice ia I icap) ∧ w'.cell? ⟨w.heap.size + 1, 2, none⟩ = some (.slice oa O ocap) ∧ w'.cell? (adr ia p) = some (.int .i64 si) ∧ w'.cell? (adr oa p) = some (.int .i64 so)) w') := Lib.hid fun w' hA => by
            have r1 := RT.agree hA ⟨hTI, hTO⟩
            have r2 := rS.agree hA ⟨by omega, by omega⟩
            have r3 := (hIL.agree (hA.mono fun b hb => ⟨by omega, by omega⟩)).cellN (k := p) (by omega)
            have r4 := (hOL.agree (hA.mono fun b hb => ⟨by omega, by omega⟩)).cellN (k := p) (by omega)
            rw [← hsi] at r3
            rw [← hso] at r4
            exact ⟨r1.cell (j := 1) rfl, r1.cell (j := 2) rfl, r2.cell (j := 1) rfl, r2.cell (j := 2) rfl, r3, r4⟩
          have hdw : Below wr.heap.size wr wr.drew := drewN_below wr.heap.size wr 1
          have RId := RI.ext hdw
          have a1 := rowInt RId (k := q) (by omega)
          have f1 := RId.free q
          have l1 := RId.lt
          have hI2 : some IB ≠ some OB := fun e => hIO (by injection e)
          have hI3 : some IB ≠ some TB := fun e => hTI (by injection e with e; exact e.symm)
          have hO3 : some OB ≠ some TB := fun e => hTO (by injection e with e; exact e.symm)
          have hO2 : some OB ≠ some IB := fun e => hIO (by injection e with e; exact e.symm)
          have hd2 : Below (wr.setCell ⟨IB, q, none⟩ (.int .i64 si)).heap.size (wr.setCell ⟨IB, q, none⟩ (.int .i64 si)) (wr.setCell ⟨IB, q, none⟩ (.int .i64 si)).drew := drewN_below _ _ 1
          have RI3 := (rowSet RI q si).ext hd2
          have RO3 := (RO.grown (grownBy_setCell wr IB q (.int .i64 si)) hI2).ext hd2
          have RT3 := (RT.grown (grownBy_setCell wr IB q (.int .i64 si)) hI3).ext hd2
          have y13 : Below B5 w5 (wr.setCell ⟨IB, q, none⟩ (.int .i64 si)).drew := (y7.setCell (p := ⟨IB, q, none⟩) hI0 (.int .i64 si)).trans (hd2.mono (Nat.le_trans hI0 (Nat.le_of_lt (rowSet RI q si).lt)))
          have AG1 : Hid (Agree (fun b => b ≠ IB ∧ b ≠ OB) wr wr.drew) := Lib.hid (.of_ext hdw)
          have AG2 : Hid (Agree (fun b => b ≠ IB ∧ b ≠ OB) wr (wr.setCell ⟨IB, q, none⟩ (.int .i64 si)).drew) := Lib.hid ((Agree.of_grown (grownBy_setCell wr IB q (.int .i64 si)) fun b hb e => hb.1 (by injection e with e; exact e.symm)).trans (.of_ext hd2))
          clear hsi hso hqL hqT hIL hOL hdw hd2 RId hIs hOs y7 RI RO RT rE rS
          go_upto_region 14 with fail
          refine region_E (fun w' : World => w'.cell? ⟨TB, 1, none⟩ = some (.slice (some ⟨IB, 0, none⟩) N N) ∧ w'.cell? ⟨TB, 2, none⟩ = some (.slice (some ⟨OB, 0, none⟩) N N) ∧ w'.cell? ⟨w.heap.size + 1, 1, none⟩ = some (.slice ia I icap) ∧ w'.cell? ⟨w.heap.size + 1, 2, none⟩ = some (.slice oa O ocap) ∧ w'.cell? (adr ia p) = some (.int .i64 si) ∧ w'.cell? (adr oa p) = some (.int .i64 so)) (fun i => i == 19) (by kernel_rfl) ?_ (fun hHeld => ?_)
          · exact KEEP.out _ AG1.out
          refine anyE_take 0 (v := ?_) rfl (by kernel_rfl) (fun _ _ _ h => h) (by rfl) ?hy0m hHeld ?rest0m
          case hy0m => (intro w hSw; (try dsimp only at hSw); go_simp; try with_reducible rfl)
          try simp only [Act.put, List.setIfInBounds_toArray, List.set_cons_zero, List.set_cons_succ]
          refine anyE_take 1 (v := ?_) rfl (by kernel_rfl) (fun _ _ _ h => h) (by rfl) ?hy1m hHeld ?rest1m
          case hy1m => (intro w hSw; (try dsimp only at hSw); go_simp; try with_reducible rfl)
          try simp only [Act.put, List.setIfInBounds_toArray, List.set_cons_zero, List.set_cons_succ]
          refine anyE_take 2 (v := ?_) rfl (by kernel_rfl) (fun _ _ _ h => h) (by rfl) ?hy2m hHeld ?rest2m
          case hy2m => (intro w hSw; (try dsimp only at hSw); go_simp; try with_reducible rfl)
          try simp only [Act.put, List.setIfInBounds_toArray, List.set_cons_zero, List.set_cons_succ]
          refine anyE_take 3 (v := ?_) rfl (by kernel_rfl) (fun _ _ _ h => h) (by rfl) ?hy3m hHeld ?rest3m
          case hy3m => (intro w hSw; (try dsimp only at hSw); go_simp; try with_reducible rfl)
          try simp only [Act.put, List.setIfInBounds_toArray, List.set_cons_zero, List.set_cons_succ]
          refine anyE_take 4 (v := ?_) rfl (by kernel_rfl) (fun _ _ _ h => h) (by rfl) ?hy4m hHeld ?rest4m
          case hy4m => (intro w hSw; (try dsimp only at hSw); go_simp; try with_reducible rfl)
          try simp only [Act.put, List.setIfInBounds_toArray, List.set_cons_zero, List.set_cons_succ]
          refine anyE_take 5 (v := ?_) rfl (by kernel_rfl) (fun _ _ _ h => h) (by rfl) ?hy5m hHeld ?rest5m
          case hy5m => (intro w hSw; (try dsimp only at hSw); go_simp; try with_reducible rfl)
          try simp only [Act.put, List.setIfInBounds_toArray, List.set_cons_zero, List.set_cons_succ]
          refine anyE_take 6 (v := ?_) rfl (by kernel_rfl) (fun _ _ _ h => h) (by rfl) ?hy6m hHeld ?rest6m
          case hy6m => (intro w hSw; (try dsimp only at hSw); go_simp; try with_reducible rfl)
          try simp only [Act.put, List.setIfInBounds_toArray, List.set_cons_zero, List.set_cons_succ]
          refine anyE_take 7 (v := ?_) rfl (by kernel_rfl) (fun _ _ _ h => h) (by rfl) ?hy7m hHeld ?rest7m
          case hy7m => (intro w hSw; (try dsimp only at hSw); go_simp; try with_reducible rfl)
          try simp only [Act.put, List.setIfInBounds_toArray, List.set_cons_zero, List.set_cons_succ]
          refine anyE_take 8 (v := ?_) rfl (by kernel_rfl) (fun _ _ _ h => h) (by rfl) ?hy8m hHeld ?rest8m
          case hy8m => (intro w hSw; (try dsimp only at hSw); go_simp; try with_reducible rfl)
          try simp only [Act.put, List.setIfInBounds_toArray, List.set_cons_zero, List.set_cons_succ]
          refine anyE_take 9 (v := ?_) rfl (by kernel_rfl) (fun _ _ _ h => h) (by rfl) ?hy9m hHeld ?rest9m
          case hy9m => (intro w hSw; (try dsimp only at hSw); go_simp; try with_reducible rfl)
          try simp only [Act.put, List.setIfInBounds_toArray, List.set_cons_zero, List.set_cons_succ]
          refine anyE_take 10 (v := ?_) rfl (by kernel_rfl) (fun _ _ _ h => h) (by rfl) ?hy10m hHeld ?rest10m
          case hy10m => (intro w hSw; (try dsimp only at hSw); go_simp; try with_reducible rfl)
          try simp only [Act.put, List.setIfInBounds_toArray, List.set_cons_zero, List.set_cons_succ]
          refine anyE_take 11 (v := ?_) rfl (by kernel_rfl) (fun _ _ _ h => h) (by rfl) ?hy11m hHeld ?rest11m
          case hy11m => (intro w hSw; (try dsimp only at hSw); go_simp; try with_reducible rfl)
          try simp only [Act.put, List.setIfInBounds_toArray, List.set_cons_zero, List.set_cons_succ]
          refine anyE_take 12 (v := ?_) rfl (by kernel_rfl) (fun _ _ _ h => h) (by rfl) ?hy12m hHeld ?rest12m
          case hy12m => (intro w hSw; (try dsimp only at hSw); go_simp; try with_reducible rfl)
          try simp only [Act.put, List.setIfInBounds_toArray, List.set_cons_zero, List.set_cons_succ]
          refine anyE_take 13 (v := ?_) rfl (by kernel_rfl) (fun _ _ _ h => h) (by rfl) ?hy13m hHeld ?rest13m
          case hy13m => (intro w hSw; (try dsimp only at hSw); go_simp; try with_reducible rfl)
          try simp only [Act.put, List.setIfInBounds_toArray, List.set_cons_zero, List.set_cons_succ]
          refine anyE_take 14 (v := ?_) rfl (by kernel_rfl) (fun _ _ _ h => h) (by rfl) ?hy14m hHeld ?rest14m
          case hy14m => (intro w hSw; (try dsimp only at hSw); go_simp; try with_reducible rfl)
          try simp only [Act.put, List.setIfInBounds_toArray, List.set_cons_zero, List.set_cons_succ]
          refine anyE_take 15 (v := ?_) rfl (by kernel_rfl) (fun _ _ _ h => h) (by rfl) ?hy15m hHeld ?rest15m
          case hy15m => (intro w hSw; (try dsimp only at hSw); go_simp; try with_reducible rfl)
          try simp only [Act.put, List.setIfInBounds_toArray, List.set_cons_zero, List.set_cons_succ]
          refine anyE_take 16 (v := ?_) rfl (by kernel_rfl) (fun _ _ _ h => h) (by rfl) ?hy16m hHeld ?rest16m
          case hy16m => (intro w hSw; (try dsimp only at hSw); go_simp; try with_reducible rfl)
          try simp only [Act.put, List.setIfInBounds_toArray, List.set_cons_zero, List.set_cons_succ]
          refine anyE_one 17 rfl (by kernel_rfl) (fun K hK => ?_)
          go_simp
          refine hK.out _ _ (fun _ => KEEP.out _ AG2.out) (fun hHeld => ?_); replace hHeld := hHeld rfl
          clear hK K
          try simp only [Act.put, List.setIfInBounds_toArray, List.set_cons_zero, List.set_cons_succ]
          refine anyE_take 18 (v := ?_) rfl (by kernel_rfl) (fun _ _ _ h => h) (by rfl) ?hy18m hHeld ?rest18m
          case hy18m => (intro w hSw; (try dsimp only at hSw); go_simp; try with_reducible rfl)
          try simp only [Act.put, List.setIfInBounds_toArray, List.set_cons_zero, List.set_cons_succ]
          refine anyE_one 19 rfl (by kernel_rfl) (fun K hK => ?_)
          obtain ⟨w13, hw13⟩ : ∃ x, x = (wr.setCell ⟨IB, q, none⟩ (.int .i64 si)).drew := ⟨_, rfl⟩
          rw [← hw13] at RI3 RO3 RT3 y13 ⊢
          clear hw13
          have a3 := rowInt RO3 (k := q) (by omega)
          have f3 := RO3.free q
          have l3 := RO3.lt
          go_simp
          refine hK.out _ _ (fun h => by simp at h) (fun hHeld => ?_)
          clear hK K
          try simp only [Act.put, List.setIfInBounds_toArray, List.set_cons_zero, List.set_cons_succ]
          refine anyE_done (by kernel_rfl) ?_ _
          have RO4 := rowSet RO3 q so
          have RI4 := RI3.grown (grownBy_setCell w13 OB q (.int .i64 so)) hO2
          have RT4 := RT3.grown (grownBy_setCell w13 OB q (.int .i64 so)) hO3
          have y14 := y13.setCell (p := ⟨OB, q, none⟩) hO0 (.int .i64 so)
          have hH0 : nth H q = 0 := by
            have := HPI.out.iz p (Nat.le_refl _) hlp
            rw [HSIO.out.2.2.2, Int.toNat_natCast] at this
            exact this
          have RT5 : Row (w13.setCell ⟨OB, q, none⟩ (.int .i64 so)) TB 28 (scC N (.slice (some ⟨IB, 0, none⟩) N N) (.slice (some ⟨OB, 0, none⟩) N N) (H.set q (rowN s.hears (L.take N) p 0 : Int)) (.slice none 0 0)) := by
            rw [set_same (show nth H q = (rowN s.hears (L.take N) p 0 : Int) from hH0)]
            exact RT4
          clear hHeld KEEP AG1 AG2 a1 f1 l1 t1 t2 lT s1 s2 lS ci co qi qo bi bo RO3 RI3 RT3 RT4 y13 hH0 cp qp lp rP qI qO
          go_wp2
          go_loopw [13, 14, 118] (fun _ _ xv wr => ∃ x : Nat, x ≤ N ∧ xv = .int .i64 x ∧ Below B5 w5 wr ∧ Row wr TB 28 (scC N (.slice (some ⟨IB, 0, none⟩) N N) (.slice (some ⟨OB, 0, none⟩) N N) (H.set q (rowN s.hears (L.take N) p x : Int)) (.slice none 0 0)) ∧ Row wr IB 3 ((A.set q si).map (Value.int .i64)) ∧ Row wr OB 3 ((B.set q so).map (Value.int .i64))) (fun _ _ xv _ => N - (intOf xv).toNat)
          case atStart => exact ⟨0, by omega, rfl, y14, RT5, RI4, RO4⟩
          case round =>
            clear y14 RT5 RI4 RO4
            obtain ⟨x, hx, rfl, y7, RT, RI, RO⟩ := hrel
            by_cases hlx : x < N
            case neg =>
              have exN : x = N := by omega
              rw [exN] at RT
              have HST := HPI.out.step HPM.out hN5 (fun i hi => by obtain ⟨q', h1, _, h2⟩ := pi_at (by omega) HPM.out hi; rw [h2, Int.toNat_natCast]; exact h1) hlp
              rw [HSIO.out.2.2.2, Int.toNat_natCast, ← HSIO.out.1, ← HSIO.out.2.1] at HST
              have HST2 := Lib.hid HST
              clear HST HPI exN
              go_wp2
              go_roundw
              case rel => exact ⟨p + 1, _, _, _, by omega, by go_num, HST2, y7, RT, RI, RO⟩
              case measure => simp [intOf]; omega
            obtain ⟨yv, hyN, hyL, hyT⟩ := pi_at (by omega) HPM.out hlx
            obtain ⟨rE, rS, rP⟩ := HRX.out _ y7
            have cx := rowInt rP (k := x) (by omega)
            rw [hyL] at cx
            have qx := idx_own PB N 5 hlx
            have lp := rP.lt
            have hHl := HPI.out.lh
            have hHs : (H.set q (rowN s.hears (L.take N) p x : Int)).length = 5 := by rw [List.length_set]; exact hHl
            have rS' : Row wr (w.heap.size + 1) 28 (scC N (.slice ia I icap) (.slice oa O ocap) s.hears (.slice va V vcap)) := by rw [HH.out]; exact rS
            have tq := RT.cell (scC_at hHs (show q < 5 by omega))
            rw [nth_set_eqI (by rw [hHl]; omega)] at tq
            have sp := rS'.cell (scC_at H5.out (show p < 5 by omega))
            have hr32 := rowN_lt (Hs := s.hears) (pi := L.take N) (p := p) (n := N) (fun i hi => by obtain ⟨q', h1, _, h2⟩ := pi_at (by omega) HPM.out hi; rw [h2, Int.toNat_natCast]; omega) x (by omega)
            obtain ⟨r, hr⟩ : ∃ r, r = rowN s.hears (L.take N) p x := ⟨_, rfl⟩
            obtain ⟨hp', hhp⟩ : ∃ r, r = nth s.hears p := ⟨_, rfl⟩
            rw [← hr] at tq hr32
            rw [← hhp] at sp
            obtain ⟨bI, hbI⟩ : ∃ b : Nat, b = if bitS hp' (x : Int) = true then 1 else 0 := ⟨_, rfl⟩
            have hb1 : bI ≤ 1 := by rw [hbI]; split <;> omega
            have hand : bits .and .i64 (hp' / 2 ^ x) 1 = (bI : Int) := by
              rw [i64_and1, bit_num, hbI]; split <;> rfl
            have hpw : 2 ^ yv ≤ 16 := Nat.le_trans (Nat.pow_le_pow_right (by decide) (show yv ≤ 4 by omega)) (by decide)
            obtain ⟨m, hm⟩ : ∃ m, m = bI * 2 ^ yv := ⟨_, rfl⟩
            have hm16 : m ≤ 16 := by
              rw [hm]
              rcases (show bI = 0 ∨ bI = 1 by omega) with h | h
              · rw [h, Nat.zero_mul]; exact Nat.zero_le _
              · rw [h, Nat.one_mul]; exact hpw
            have hr2 : r < 32 := hr32
            clear hpw hr32
            have hsh0 : (bI : Int) * 2 ^ yv = (m : Int) := by rw [hm]; simp
            have hbm : m = if bitS hp' (x : Int) = true then 2 ^ yv else 0 := by
              rw [hm, hbI]; split <;> simp
            clear hm
            have hshl : wrap64 ((bI : Int) * 2 ^ yv) = (m : Int) := by rw [hsh0]; clear hand hbm hsh0; rw [IntWalk.wrap64_in _ (by omega)]
            have hor : bits .or .i64 (r : Int) (m : Int) = ((r ||| m : Nat) : Int) := or_natP (Nat.lt_of_lt_of_le hr2 (by decide)) (Nat.lt_of_le_of_lt hm16 (by decide))
            have hnew : Hid ((r ||| m) = rowN s.hears (L.take N) p (x + 1)) := Lib.hid (by
              show _ = rowN s.hears (L.take N) p x ||| _
              rw [hr, hbm, hyT, Int.toNat_natCast, ← hhp])
            have qT := idx_arr TB 3 (show q < 5 by omega)
            have qS := idx_arr (w.heap.size + 1) 3 (show p < 5 by omega)
            have lT := RT.lt
            have lS := rS.lt
            have KEEP : Hid (∀ w', Below wr.heap.size wr w' → (fun w' : World => w'.cell? ⟨TB, 3 + q, none⟩ = some (.int .i64 (r : Int)) ∧ w'.cell? ⟨w.heap.size + 1, 3 + p, none⟩ = some (.int .i64 hp')) w') := Lib.hid fun w' hw => ⟨cell_ext tq hw, cell_ext sp hw⟩
            have hdw : Below wr.heap.size wr wr.drew := drewN_below wr.heap.size wr 1
            have hT3 : some TB ≠ some IB := fun e => hTI (by injection e)
            have hT4 : some TB ≠ some OB := fun e => hTO (by injection e)
            have RTd := RT.ext hdw
            have ctd := RTd.cell (scC_at hHs (show q < 5 by omega))
            have ftd := RTd.free (3 + q)
            have ltd := RTd.lt
            clear hyL hyT hr hhp hbI hbm hsh0 rE rS rS' hHl
            go_upto_region 18 with fail
            refine region_D (fun w' : World => w'.cell? ⟨TB, 3 + q, none⟩ = some (.int .i64 (r : Int)) ∧ w'.cell? ⟨w.heap.size + 1, 3 + p, none⟩ = some (.int .i64 hp')) (fun i => i == 16) (by kernel_rfl) ?_ (fun hHeld => ?_)
            · exact KEEP.out _ hdw
            refine anyD_see 0 (v := ?_) rfl (by kernel_rfl) (fun _ _ _ h => h) (by rfl) ?hy0h (fun _ => hHeld) ?rest0h
            case hy0h => (intro w; go_simp; try with_reducible rfl)
            try simp only [Act.put, List.setIfInBounds_toArray, List.set_cons_zero, List.set_cons_succ]
            refine anyD_see 1 (v := ?_) rfl (by kernel_rfl) (fun _ _ _ h => h) (by rfl) ?hy1h (fun _ => hHeld) ?rest1h
            case hy1h => (intro w; go_simp; try with_reducible rfl)
            try simp only [Act.put, List.setIfInBounds_toArray, List.set_cons_zero, List.set_cons_succ]
            refine anyD_see 2 (v := ?_) rfl (by kernel_rfl) (fun _ _ _ h => h) (by rfl) ?hy2h (fun _ => hHeld) ?rest2h
            case hy2h => (intro w; go_simp; try with_reducible rfl)
            try simp only [Act.put, List.setIfInBounds_toArray, List.set_cons_zero, List.set_cons_succ]
            refine anyD_take 3 (v := ?_) rfl (by kernel_rfl) (fun d hd => by simp at hd ⊢; omega) (fun _ _ _ h => h) (by rfl) ?hy3h hHeld ?rest3h
            case hy3h => (intro w hSw; (try dsimp only at hSw); go_simp; try with_reducible rfl)
            try simp only [Act.put, List.setIfInBounds_toArray, List.set_cons_zero, List.set_cons_succ]
            refine anyD_see 4 (v := ?_) rfl (by kernel_rfl) (fun _ _ _ h => h) (by rfl) ?hy4h (fun _ => hHeld) ?rest4h
            case hy4h => (intro w; go_simp; try with_reducible rfl)
            try simp only [Act.put, List.setIfInBounds_toArray, List.set_cons_zero, List.set_cons_succ]
            refine anyD_see 5 (v := ?_) rfl (by kernel_rfl) (fun _ _ _ h => h) (by rfl) ?hy5h (fun _ => hHeld) ?rest5h
            case hy5h => (intro w; go_simp; try with_reducible rfl)
            try simp only [Act.put, List.setIfInBounds_toArray, List.set_cons_zero, List.set_cons_succ]
            refine anyD_see 6 (v := ?_) rfl (by kernel_rfl) (fun _ _ _ h => h) (by rfl) ?hy6h (fun _ => hHeld) ?rest6h
            case hy6h => (intro w; go_simp; try with_reducible rfl)
            try simp only [Act.put, List.setIfInBounds_toArray, List.set_cons_zero, List.set_cons_succ]
            refine anyD_take 7 (v := ?_) rfl (by kernel_rfl) (fun d hd => by simp at hd ⊢; omega) (fun _ _ _ h => h) (by rfl) ?hy7h hHeld ?rest7h
            case hy7h => (intro w hSw; (try dsimp only at hSw); go_simp; try with_reducible rfl)
            try simp only [Act.put, List.setIfInBounds_toArray, List.set_cons_zero, List.set_cons_succ]
            refine anyD_see 8 (v := ?_) rfl (by kernel_rfl) (fun _ _ _ h => h) (by rfl) ?hy8h (fun _ => hHeld) ?rest8h
            case hy8h => (intro w; go_simp; try with_reducible rfl)
            try simp only [Act.put, List.setIfInBounds_toArray, List.set_cons_zero, List.set_cons_succ]
            refine anyD_see 9 (v := ?_) rfl (by kernel_rfl) (fun _ _ _ h => h) (by rfl) ?hy9h (fun _ => hHeld) ?rest9h
            case hy9h => (intro w; go_simp; try with_reducible rfl)
            try simp only [Act.put, List.setIfInBounds_toArray, List.set_cons_zero, List.set_cons_succ]
            refine anyD_see 10 (v := ?_) rfl (by kernel_rfl) (fun _ _ _ h => h) (by rfl) ?hy10h (fun _ => hHeld) ?rest10h
            case hy10h => (intro w; go_simp; try with_reducible rfl)
            try simp only [Act.put, List.setIfInBounds_toArray, List.set_cons_zero, List.set_cons_succ]
            refine anyD_see 11 (v := ?_) rfl (by kernel_rfl) (fun _ _ _ h => h) (by rfl) ?hy11h (fun _ => hHeld) ?rest11h
            case hy11h => (intro w; go_simp; try with_reducible rfl)
            try simp only [Act.put, List.setIfInBounds_toArray, List.set_cons_zero, List.set_cons_succ]
            refine anyD_see 12 (v := ?_) rfl (by kernel_rfl) (fun _ _ _ h => h) (by rfl) ?hy12h (fun _ => hHeld) ?rest12h
            case hy12h => (intro w; go_simp; try with_reducible rfl)
            try simp only [Act.put, List.setIfInBounds_toArray, List.set_cons_zero, List.set_cons_succ]
            refine anyD_see 13 (v := ?_) rfl (by kernel_rfl) (fun _ _ _ h => h) (by rfl) ?hy13h (fun _ => hHeld) ?rest13h
            case hy13h => (intro w; go_simp; try with_reducible rfl)
            try simp only [Act.put, List.setIfInBounds_toArray, List.set_cons_zero, List.set_cons_succ]
            refine anyD_see 14 (v := ?_) rfl (by kernel_rfl) (fun _ _ _ h => h) (by rfl) ?hy14h (fun _ => hHeld) ?rest14h
            case hy14h => (intro w; go_simp; try with_reducible rfl)
            try simp only [Act.put, List.setIfInBounds_toArray, List.set_cons_zero, List.set_cons_succ]
            refine anyD_see 15 (v := ?_) rfl (by kernel_rfl) (fun _ _ _ h => h) (by rfl) ?hy15h (fun _ => hHeld) ?rest15h
            case hy15h => (intro w; go_simp; try with_reducible rfl)
            try simp only [Act.put, List.setIfInBounds_toArray, List.set_cons_zero, List.set_cons_succ]
            refine anyD_one 16 rfl (by kernel_rfl) (fun K hK => ?_)
            go_simp
            refine hK.out _ _ (fun h => absurd h (noD_done (i := 16) rfl (by kernel_rfl))) (fun _ => ?_)
            clear hK K
            try simp only [Act.put, List.setIfInBounds_toArray, List.set_cons_zero, List.set_cons_succ]
            refine anyD_done (by kernel_rfl) ?_ _
            have hE : (bits .or .i64 (r : Int) (wrap64 ((bI : Int) * 2 ^ yv))) = (rowN s.hears (L.take N) p (x + 1) : Int) := by rw [hshl, hor, hnew.out]
            have hd9 : Below (wr.setCell ⟨TB, 3 + q, none⟩ (.int .i64 (bits .or .i64 (r : Int) (wrap64 ((bI : Int) * 2 ^ yv))))).heap.size (wr.setCell ⟨TB, 3 + q, none⟩ (.int .i64 (bits .or .i64 (r : Int) (wrap64 ((bI : Int) * 2 ^ yv))))) (wr.setCell ⟨TB, 3 + q, none⟩ (.int .i64 (bits .or .i64 (r : Int) (wrap64 ((bI : Int) * 2 ^ yv))))).drew := drewN_below _ _ 1
            have RT8 : Row (wr.setCell ⟨TB, 3 + q, none⟩ (.int .i64 (bits .or .i64 (r : Int) (wrap64 ((bI : Int) * 2 ^ yv))))) TB 28 (scC N (.slice (some ⟨IB, 0, none⟩) N N) (.slice (some ⟨OB, 0, none⟩) N N) (H.set q (rowN s.hears (L.take N) p (x + 1) : Int)) (.slice none 0 0)) := by
              have h := RT.set (3 + q) (.int .i64 (bits .or .i64 (r : Int) (wrap64 ((bI : Int) * 2 ^ yv))))
              rw [scC_set hHs (show q < 5 by omega), List.set_set] at h
              rw [← hE]; exact h
            have hl9 := RT8.lt
            have RT9 := RT8.ext hd9
            have RI9 := (RI.grown (grownBy_setCell wr TB (3 + q) (.int .i64 (bits .or .i64 (r : Int) (wrap64 ((bI : Int) * 2 ^ yv))))) hT3).ext hd9
            have RO9 := (RO.grown (grownBy_setCell wr TB (3 + q) (.int .i64 (bits .or .i64 (r : Int) (wrap64 ((bI : Int) * 2 ^ yv))))) hT4).ext hd9
            have y9 := (y7.setCell (p := ⟨TB, 3 + q, none⟩) hT0 (.int .i64 (bits .or .i64 (r : Int) (wrap64 ((bI : Int) * 2 ^ yv))))).trans (hd9.mono (Nat.le_trans hT0 (Nat.le_of_lt hl9)))
            clear hE hl9 hHeld KEEP RT RI RO RT8 RTd ctd ftd ltd hor hshl hand tq sp qT qS lT lS cx qx lp rP hHs y7 hd9 hdw
            go_wp2
            go_roundw
            case rel => exact ⟨x + 1, by omega, by go_num, y9, RT9, RI9, RO9⟩
            case measure => simp [intOf]; omega
    obtain ⟨rE, rS, rB⟩ := HRW.out _ y3
    obtain ⟨xk, hxk, hxc⟩ := u8_at HBB.out.1 HBB.out.2.1 HBB.out.2.2.1 HBB.out.2.2.2.1 HBB.out.2.2.2.2 (show k < 5 by omega)
    obtain ⟨j, hj⟩ : ∃ j, j = xk % N := ⟨_, rfl⟩
    have hjN : j < N := by rw [hj]; exact Nat.mod_lt _ (by omega)
    have cb : wr.cell? ⟨w.heap.size + 2, k, none⟩ = some (.int .u8 (xk : Int)) := rB.cell hxc
    have qb := idx_u8 (w.heap.size + 2) (show k < 5 by omega)
    have lB := rB.lt
    have cS := rS.cell (j := 0) rfl
    have lS := rS.lt
    have wx := wrapBP xk hxk
    have m1 : Int.tmod (xk : Int) (N : Int) = (j : Int) := by rw [tmodP, hj]
    have hn0 : ¬ (N : Int) = 0 := by omega
    have hnz : ¬ N = 0 := by omega
    have dn : ((N : Int) == 0) = false := by rw [beq_eq_false_iff_ne]; exact hn0
    clear hxc hj hxk
    go_upto_region 7 with fail
    go_quiet (fail)
    clear wx m1 hn0 dn hnz cb qb lB cS lS rE rS rB
    obtain ⟨w4, hw4⟩ : ∃ w4, w4 = wr.drewN nq := ⟨_, rfl⟩
    rw [← hw4]
    have hb : Below wr.heap.size wr w4 := by rw [hw4]; exact drewN_below _ _ _
    have y4 := y3.trans (hb.mono (Nat.le_trans (Nat.le_of_lt RP.lt) (Nat.le_refl _)))
    replace RP := RP.ext hb
    clear hw4 hb y3
    have hb : Below w4.heap.size w4 w4.drew := drewN_below w4.heap.size w4 1
    have y5 := y4.trans (hb.mono (Nat.le_of_lt RP.lt))
    have RD := RP.ext hb
    obtain ⟨u, hu⟩ : ∃ u, u = nth L k := ⟨_, rfl⟩
    obtain ⟨z, hz⟩ : ∃ z, z = nth L j := ⟨_, rfl⟩
    have a1 := rowInt RD (k := k) (by omega)
    have a2 := rowInt RD (k := j) (by omega)
    rw [← hu] at a1
    rw [← hz] at a2
    have f1 := RD.free k
    have l1 := RD.lt
    have R13 : Row (w4.setCell ⟨PB, k, none⟩ (.int .i64 z)).drew PB 3 ((L.set k z).map (Value.int .i64)) := (rowSet RP k z).ext (drewN_below _ _ 1)
    have y13 : Below PB w3 (w4.setCell ⟨PB, k, none⟩ (.int .i64 z)).drew := (y4.setCell (p := ⟨PB, k, none⟩) (Nat.le_refl _) (.int .i64 z)).trans ((drewN_below (w4.setCell ⟨PB, k, none⟩ (.int .i64 z)).heap.size (w4.setCell ⟨PB, k, none⟩ (.int .i64 z)) 1).mono (Nat.le_of_lt (rowSet RP k z).lt))
    have HPM2 : Hid ((((L.set k z).set j u).take N).Perm ((List.range N).map fun k : Nat => (k : Int))) := Lib.hid (by rw [hu, hz]; exact swap_take (by omega) HPM.out hlt hjN)
    have qk := idx_own PB N 5 hlt
    have qj := idx_own PB N 5 hjN
    clear hu hz HPM y4 y5 hb RP
    go_upto_region 8 with fail
    refine region_D (fun w' : World => w'.cell? ⟨PB, k, none⟩ = some (.int .i64 u) ∧ w'.cell? ⟨PB, j, none⟩ = some (.int .i64 z)) (fun i => i == 13 || i == 15) (by kernel_rfl) ?_ (fun hHeld => ?_)
    · exact ⟨a1, a2⟩
    refine anyD_see 0 (v := ?_) rfl (by kernel_rfl) (fun _ _ _ h => h) (by rfl) ?hy0s (fun _ => hHeld) ?rest0s
    case hy0s => (intro w; go_simp; try with_reducible rfl)
    try simp only [Act.put, List.setIfInBounds_toArray, List.set_cons_zero, List.set_cons_succ]
    refine anyD_see 1 (v := ?_) rfl (by kernel_rfl) (fun _ _ _ h => h) (by rfl) ?hy1s (fun _ => hHeld) ?rest1s
    case hy1s => (intro w; go_simp; try with_reducible rfl)
    try simp only [Act.put, List.setIfInBounds_toArray, List.set_cons_zero, List.set_cons_succ]
    refine anyD_see 2 (v := ?_) rfl (by kernel_rfl) (fun _ _ _ h => h) (by rfl) ?hy2s (fun _ => hHeld) ?rest2s
    case hy2s => (intro w; go_simp; try with_reducible rfl)
    try simp only [Act.put, List.setIfInBounds_toArray, List.set_cons_zero, List.set_cons_succ]
    refine anyD_see 3 (v := ?_) rfl (by kernel_rfl) (fun _ _ _ h => h) (by rfl) ?hy3s (fun _ => hHeld) ?rest3s
    case hy3s => (intro w; go_simp; try with_reducible rfl)
    try simp only [Act.put, List.setIfInBounds_toArray, List.set_cons_zero, List.set_cons_succ]
    refine anyD_see 4 (v := ?_) rfl (by kernel_rfl) (fun _ _ _ h => h) (by rfl) ?hy4s (fun _ => hHeld) ?rest4s
    case hy4s => (intro w; go_simp; try with_reducible rfl)
    try simp only [Act.put, List.setIfInBounds_toArray, List.set_cons_zero, List.set_cons_succ]
    refine anyD_see 5 (v := ?_) rfl (by kernel_rfl) (fun _ _ _ h => h) (by rfl) ?hy5s (fun _ => hHeld) ?rest5s
    case hy5s => (intro w; go_simp; try with_reducible rfl)
    try simp only [Act.put, List.setIfInBounds_toArray, List.set_cons_zero, List.set_cons_succ]
    refine anyD_see 6 (v := ?_) rfl (by kernel_rfl) (fun _ _ _ h => h) (by rfl) ?hy6s (fun _ => hHeld) ?rest6s
    case hy6s => (intro w; go_simp; try with_reducible rfl)
    try simp only [Act.put, List.setIfInBounds_toArray, List.set_cons_zero, List.set_cons_succ]
    refine anyD_take 7 (v := ?_) rfl (by kernel_rfl) (fun d hd => by simp at hd ⊢; omega) (fun _ _ _ h => h) (by rfl) ?hy7s hHeld ?rest7s
    case hy7s => (intro w hSw; (try dsimp only at hSw); go_simp; try with_reducible rfl)
    try simp only [Act.put, List.setIfInBounds_toArray, List.set_cons_zero, List.set_cons_succ]
    refine anyD_see 8 (v := ?_) rfl (by kernel_rfl) (fun _ _ _ h => h) (by rfl) ?hy8s (fun _ => hHeld) ?rest8s
    case hy8s => (intro w; go_simp; try with_reducible rfl)
    try simp only [Act.put, List.setIfInBounds_toArray, List.set_cons_zero, List.set_cons_succ]
    refine anyD_see 9 (v := ?_) rfl (by kernel_rfl) (fun _ _ _ h => h) (by rfl) ?hy9s (fun _ => hHeld) ?rest9s
    case hy9s => (intro w; go_simp; try with_reducible rfl)
    try simp only [Act.put, List.setIfInBounds_toArray, List.set_cons_zero, List.set_cons_succ]
    refine anyD_see 10 (v := ?_) rfl (by kernel_rfl) (fun _ _ _ h => h) (by rfl) ?hy10s (fun _ => hHeld) ?rest10s
    case hy10s => (intro w; go_simp; try with_reducible rfl)
    try simp only [Act.put, List.setIfInBounds_toArray, List.set_cons_zero, List.set_cons_succ]
    refine anyD_take 11 (v := ?_) rfl (by kernel_rfl) (fun d hd => by simp at hd ⊢; omega) (fun _ _ _ h => h) (by rfl) ?hy11s hHeld ?rest11s
    case hy11s => (intro w hSw; (try dsimp only at hSw); go_simp; try with_reducible rfl)
    try simp only [Act.put, List.setIfInBounds_toArray, List.set_cons_zero, List.set_cons_succ]
    refine anyD_see 12 (v := ?_) rfl (by kernel_rfl) (fun _ _ _ h => h) (by rfl) ?hy12s (fun _ => hHeld) ?rest12s
    case hy12s => (intro w; go_simp; try with_reducible rfl)
    try simp only [Act.put, List.setIfInBounds_toArray, List.set_cons_zero, List.set_cons_succ]
    refine anyD_one 13 rfl (by kernel_rfl) (fun K hK => ?_)
    go_simp
    refine hK.out _ _ (fun h => absurd h (noD_done (i := 13) rfl (by kernel_rfl))) (fun _ => ?_)
    clear hK K
    try simp only [Act.put, List.setIfInBounds_toArray, List.set_cons_zero, List.set_cons_succ]
    refine anyD_see 14 (v := ?_) rfl (by kernel_rfl) (fun _ _ _ h => h) (by rfl) ?hy14s (fun h => absurd h (noD_done (i := 13) rfl (by kernel_rfl))) ?rest14s
    case hy14s => (intro w; go_simp; try with_reducible rfl)
    try simp only [Act.put, List.setIfInBounds_toArray, List.set_cons_zero, List.set_cons_succ]
    refine anyD_one 15 rfl (by kernel_rfl) (fun K hK => ?_)
    obtain ⟨w13, hw13⟩ : ∃ x, x = (w4.setCell ⟨PB, k, none⟩ (.int .i64 z)).drew := ⟨_, rfl⟩
    rw [← hw13] at R13 y13 ⊢
    clear hw13
    have a3 := rowInt R13 (k := j) (by rw [List.length_set]; omega)
    have f3 := R13.free j
    have l3 := R13.lt
    go_simp
    refine hK.out _ _ (fun h => absurd h (noD_done (i := 15) rfl (by kernel_rfl))) (fun _ => ?_)
    clear hK K
    try simp only [Act.put, List.setIfInBounds_toArray, List.set_cons_zero, List.set_cons_succ]
    refine anyD_done (by kernel_rfl) ?_ _
    have RD3 := rowSet R13 j u
    have y6 := y13.setCell (p := ⟨PB, j, none⟩) (Nat.le_refl _) (.int .i64 u)
    clear hHeld a1 a2 a3 f1 f3 l1 l3 qk qj RD R13 y13
    go_wp2
    go_roundw
    case rel => exact ⟨k + 1, _, by omega, by go_num, by rw [List.length_set, List.length_set]; exact hL, HPM2, y6, RD3⟩
    case measure => simp [intOf]; omega
end Go.Proofs.YthogcbffnbhalaaDoor
