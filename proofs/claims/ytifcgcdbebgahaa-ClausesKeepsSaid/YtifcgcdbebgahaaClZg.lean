/- The program's Resolve. -/
import Derived.Test.YtifcgcdbebgahaaClZf
namespace Go.Proofs.Ytifcgcdbebgahaa
set_option linter.unusedVariables false
open Go.RowKit
attribute [local go_sem ↓] Go.wp_at_zero Go.wp_at_succ

theorem clause_sortV {n : Int} {l : List Int} (hn : n ≤ 100000) (h : clauseE n l = 0) : SortV l ∧ ∀ z ∈ l, goodP n z = true := by
  have h := clauseE_zero.1 h
  have hg : ∀ z ∈ l, goodP n z = true := fun z hz => by
    obtain ⟨j, hj, rfl⟩ := List.getElem_of_mem hz
    have := (h j hj).1
    rwa [nth_eq hj] at this
  refine ⟨List.pairwise_iff_getElem.2 fun i j hi hj hij => ?_, hg⟩
  have key : ∀ m i, i + m + 1 < l.length → varP (nth l i) < varP (nth l (i + m + 1)) := by
    intro m
    induction m with
    | zero =>
      intro i hi
      have := (h (i + 1) hi).2 (by omega)
      rw [varP_good hn (hg _ (nth_mem hi)), varP_good hn (hg _ (nth_mem (show i < l.length by omega)))]
      simpa using this
    | succ m ih =>
      intro i hi
      have h1 := ih i (by omega)
      have h2 := (h (i + m + 1 + 1) (by omega)).2 (by omega)
      have g1 := varP_good hn (hg _ (nth_mem (show i + m + 1 < l.length by omega)))
      have g2 := varP_good hn (hg _ (nth_mem (show i + m + 1 + 1 < l.length by omega)))
      rw [show i + (m + 1) + 1 = i + m + 1 + 1 by omega]
      simp only [Nat.add_sub_cancel] at h2
      omega
  have := key (j - i - 1) i (by omega)
  rw [show i + (j - i - 1) + 1 = j by omega, nth_eq hi, nth_eq hj] at this
  exact this
theorem filter_res {n v s : Int} {l : List Int} (hn : n ≤ 100000) (h : clauseE n l = 0) (hv : 1 ≤ v) (hs : s = v ∨ s = -v) (hm : s ∈ l) : (l.filter fun x => varP x != v) = withoutP l [-s] := by
  obtain ⟨h1, h2⟩ := clause_sortV hn h
  have hgs := h2 s hm
  have hvs : varP s = v := by
    have hb := goodP_iff.1 hgs
    rw [varP_good hn hgs, varS_small (by omega)]
    split <;> omega
  unfold withoutP
  refine List.filter_congr fun x hx => ?_
  have hgx := h2 x hx
  rw [neg_wrap hn hgx, Bool.eq_iff_iff]
  by_cases e : x = s
  · rw [e, hvs]; simp [memB]
  · have hne : varP x ≠ v := fun e2 => e (sortV_unique h1 hx hm (e2.trans hvs.symm))
    have : -x ≠ -s := by omega
    simp [memB, hne, e]
set_option maxRecDepth 100000 in
set_option maxHeartbeats 2000000 in
theorem res1_quiet {w : World} {P : Nat} {v : Int} (hP : w.cell? ⟨P, 0, none⟩ = some (.int .i64 v)) (x : Int) :
    Calls Try.prog 62 #[.int .i64 x, .pointer (some ⟨P, 0, none⟩)] w (QuietP w (.tuple #[.int .i64 x, .bool (varP x != v)])) := by
  obtain ⟨u, hu⟩ : ∃ u, u = varP x := ⟨_, rfl⟩
  have HV := Lib.hid (fun W => (hu ▸ variable_quiet W x : Calls Try.prog 43 #[.int .i64 x] W (QuietP W (.int .i64 u))))
  rw [← hu]
  clear hu
  go_enter Try.func62, Try.ntmps62
  go_wp2_with fail
  go_quiet ((go_at_call 43; exact quiet_calls (HV.out _)))
  go_wp2
  refine bodyPost_ret (v := .tuple #[.int .i64 x, .bool (u != v)]) (by simp [results, Try.results62, go_sem]) rfl ?_
  exact .fin rfl ((QW.refl _).drewN _)

set_option maxRecDepth 100000 in
set_option maxHeartbeats 4000000 in
theorem resolve_calls {S S' : Nat → Prop} {w : World} {va vb : Value} {x y : List Int} (ha : Ints S w va x) (hb : Ints S' w vb y) {v : Int} (hv : WF v) :
    Calls Try.prog 28 #[va, vb, .int .i64 v] w (Post w (PPair (resolveS x y v))) := by
  obtain ⟨a, ac, rfl, _⟩ := ha.form
  obtain ⟨b, bc, rfl, _⟩ := hb.form
  obtain ⟨E, hE⟩ : ∃ E, E = resolveS x y v := ⟨_, rfl⟩
  rw [← hE]
  unfold resolveS at hE
  obtain ⟨c1, hc1⟩ : ∃ c1, c1 = clauseE 4096 x := ⟨_, rfl⟩
  obtain ⟨c2, hc2⟩ : ∃ c2, c2 = clauseE 4096 y := ⟨_, rfl⟩
  rw [← hc1, ← hc2] at hE
  have HC1 := Lib.hid hc1.symm
  have HC2 := Lib.hid hc2.symm
  have HE := Lib.hid hE
  have ex := ext_alloc' (ext_alloc w (.cells #[.int .i64 v] 3)) (.cells #[.slice a x.length ac, .slice b y.length bc] 25)
  have r0 := (row_new w [.int .i64 v] 3).alloc (.cells #[.slice a x.length ac, .slice b y.length bc] 25)
  have r1 := row_new (w.alloc (.cells #[.int .i64 v] 3)) [.slice a x.length ac, .slice b y.length bc] 25
  simp only [World.size_alloc] at r1
  have K1 := Lib.hid (fun W (hW : Below w.heap.size w W) => hc1 ▸ ((clause_quiet (ha.ext hW) (n := 4096) (by omega)).mono fun _ _ h => h.take))
  have K2 := Lib.hid (fun W (hW : Below w.heap.size w W) => hc2 ▸ ((clause_quiet (hb.ext hW) (n := 4096) (by omega)).mono fun _ _ h => h.take))
  have HA := Lib.hid ha
  have HB := Lib.hid hb
  clear hE hc1 hc2 ha hb
  go_enter Try.func28, Try.ntmps28
  go_wp2
  go_loopw [18] (fun i wr => ∃ k : Nat, k ≤ 2 ∧ i = .int .i64 k ∧ Below w.heap.size w wr ∧ Row wr w.heap.size 3 [.int .i64 v] ∧ Row wr (w.heap.size + 1) 25 [.slice a x.length ac, .slice b y.length bc] ∧ Hid (0 < k → c1 = 0) ∧ Hid (1 < k → c2 = 0)) (fun i _ => 2 - (intOf i).toNat)
  case atStart => exact ⟨0, by omega, rfl, ex, r0, r1, Lib.hid (fun h => absurd h (by omega)), Lib.hid (fun h => absurd h (by omega))⟩
  case round =>
    clear ex r0 r1
    obtain ⟨k, hk, rfl, hx, R0, R1, H1, H2⟩ := hrel
    have hk3 : k = 0 ∨ k = 1 ∨ k = 2 := by omega
    rcases hk3 with rfl | rfl | rfl
    · have q := idx_rows (g := w.heap.size + 1) (cp := 2) (n := 2) 0 (by omega)
      have p := R1.cell (j := 0) rfl
      rw [show (((0 : Nat)) : Int) = 0 from rfl] at q
      go_wp2_with fail
      refine (K1.out _ hx).mono ?_
      rintro _ w2 ⟨_, rfl, hq, rfl⟩
      have hx2 := ext_trans hx hq.ext
      have R02 := R0.ext hq.ext
      have R12 := R1.ext hq.ext
      clear hq q p R0 R1 hx
      by_cases h1 : c1 = 0
      · have e1 : (c1 != 0) = false := by simp [h1]
        have H1' : Hid (0 < 1 → c1 = 0) := Lib.hid (fun _ => h1)
        have H2' : Hid (1 < 1 → c2 = 0) := Lib.hid (fun h => absurd h (by omega))
        clear h1
        go_wp2
        go_roundw
        case rel => exact ⟨1, by omega, by go_num, hx2, R02, R12, H1', H2'⟩
        case measure => simp [intOf]
      · have e1 : (c1 != 0) = true := by simp [h1]
        have R : Hid (E = ([], c1)) := Lib.hid (by rw [HE.out, if_pos h1])
        clear h1
        go_wp2
        refine bodyPost_ret (v := .tuple #[.slice none 0 0, .int .i64 c1]) (by simp [results, Try.results28, go_sem]) rfl ?_
        exact .mk hx2 (.none R.out)
    · have q := idx_rows (g := w.heap.size + 1) (cp := 2) (n := 2) 1 (by omega)
      have p := R1.cell (j := 1) rfl
      rw [show (((1 : Nat)) : Int) = 1 from rfl] at q
      have h0 : c1 = 0 := H1.out (by omega)
      go_wp2_with fail
      refine (K2.out _ hx).mono ?_
      rintro _ w2 ⟨_, rfl, hq, rfl⟩
      have hx2 := ext_trans hx hq.ext
      have R02 := R0.ext hq.ext
      have R12 := R1.ext hq.ext
      clear hq q p R0 R1 hx
      by_cases h1 : c2 = 0
      · have e1 : (c2 != 0) = false := by simp [h1]
        have H1' : Hid (0 < 2 → c1 = 0) := Lib.hid (fun _ => h0)
        have H2' : Hid (1 < 2 → c2 = 0) := Lib.hid (fun _ => h1)
        clear h1 h0
        go_wp2
        go_roundw
        case rel => exact ⟨2, by omega, by go_num, hx2, R02, R12, H1', H2'⟩
        case measure => simp [intOf]
      · have e1 : (c2 != 0) = true := by simp [h1]
        have R : Hid (E = ([], c2)) := Lib.hid (by rw [HE.out, if_neg (by simp [h0]), if_pos h1])
        clear h1 h0
        go_wp2
        refine bodyPost_ret (v := .tuple #[.slice none 0 0, .int .i64 c2]) (by simp [results, Try.results28, go_sem]) rfl ?_
        exact .mk hx2 (.none R.out)
    · have G1 : Hid (clauseE 4096 x = 0) := Lib.hid (HC1.out.trans (H1.out (by omega)))
      have G2 : Hid (clauseE 4096 y = 0) := Lib.hid (HC2.out.trans (H2.out (by omega)))
      have HE := Lib.hid (HE.out.trans ((if_neg (by rw [H1.out (by omega)]; simp)).trans (if_neg (by rw [H2.out (by omega)]; simp))))
      have p := R0.cell (j := 0) rfl
      clear H1 H2 R1
      by_cases h3 : v < 1 ∨ 4096 < v
      · have R : Hid (E = ([], 2)) := Lib.hid (by rw [HE.out, if_pos h3])
        by_cases h4 : v < 1
        · clear h3
          go_wp2
          refine bodyPost_ret (v := .tuple #[.slice none 0 0, .int .i64 2]) (by simp [results, Try.results28, go_sem]) rfl ?_
          exact .mk hx (.none R.out)
        · have h5 : 4096 < v := by omega
          clear h3
          go_wp2
          refine bodyPost_ret (v := .tuple #[.slice none 0 0, .int .i64 2]) (by simp [results, Try.results28, go_sem]) rfl ?_
          exact .mk hx (.none R.out)
      have HE := Lib.hid (HE.out.trans (if_neg h3))
      have g1 : ¬ v < 1 := by omega
      have g2 : ¬ 4096 < v := by omega
      have hwr : IntKind.i64.wrap (-v) = -v := IntWalk.i64_in _ (by omega)
      clear h3
      obtain ⟨b1, hb1⟩ : ∃ b1, b1 = memB x v := ⟨_, rfl⟩
      obtain ⟨b2, hb2⟩ : ∃ b2, b2 = memB y (-v) := ⟨_, rfl⟩
      have K1 := Lib.hid ((contains_quiet (HA.out.ext hx) v).mono fun _ _ h => h.take)
      have K2 := Lib.hid (fun W (hW : QW wr W) => (contains_quiet ((HB.out.ext hx).ext hW.ext) (-v)).mono fun _ _ h => h.take)
      rw [← hb1] at K1 HE
      rw [← hb2] at K2 HE
      have B1 := Lib.hid hb1.symm
      have B2 := Lib.hid hb2.symm
      obtain ⟨wo, hwo⟩ : ∃ wo : World, wo = wr := ⟨_, rfl⟩
      rw [← hwo] at hx R0 p K1 K2 ⊢
      clear hb1 hb2 hwo
      go_wp2_with fail
      refine K1.out.mono ?_
      rintro _ w3 ⟨_, rfl, hq3, rfl⟩
      have hx3 := ext_trans hx hq3.ext
      have R03 := R0.ext hq3.ext
      have p := R03.cell (j := 0) rfl
      clear K1 R0
      cases b1 with
      | false =>
        have R : Hid (E = ([], 6)) := Lib.hid (by rw [HE.out, if_pos (.inl rfl)])
        go_wp2
        refine bodyPost_ret (v := .tuple #[.slice none 0 0, .int .i64 6]) (by simp [results, Try.results28, go_sem]) rfl ?_
        exact .mk hx3 (.none R.out)
      | true =>
        go_wp2_with fail
        refine (K2.out w3 hq3).mono ?_
        rintro _ w4 ⟨_, rfl, hq4, rfl⟩
        have hx4 := ext_trans hx3 hq4.ext
        have R04 := R03.ext hq4.ext
        have p := R04.cell (j := 0) rfl
        clear K2 R03 hx3 hq3 hx
        cases b2 with
        | false =>
          have R : Hid (E = ([], 6)) := Lib.hid (by rw [HE.out, if_pos (.inr rfl)])
          go_wp2
          refine bodyPost_ret (v := .tuple #[.slice none 0 0, .int .i64 6]) (by simp [results, Try.results28, go_sem]) rfl ?_
          exact .mk hx4 (.none R.out)
        | true =>
          have HE := Lib.hid (HE.out.trans (if_neg (by simp)))
          have hl1 : (x.length : Int) ≤ 4096 := clause_length (n := 4096) (by omega) G1.out
          have hl2 : (y.length : Int) ≤ 4096 := clause_length (n := 4096) (by omega) G2.out
          have F1 := filter_res (n := 4096) (by omega) G1.out (by omega) (.inl rfl) (memB_iff.1 B1.out)
          have F2 := filter_res (n := 4096) (by omega) G2.out (by omega) (.inr rfl) (memB_iff.1 B2.out)
          rw [Int.neg_neg] at F2
          have HF : Hid ((x ++ y).filter (fun z => varP z != v) = withoutP x [-v] ++ withoutP y [v]) := Lib.hid (by rw [List.filter_append, F1, F2])
          have HG : Hid (∀ z ∈ withoutP x [-v] ++ withoutP y [v], goodP 4096 z = true) := Lib.hid (fun z hz => by
            rcases List.mem_append.1 hz with h | h
            · exact (clause_sortV (by omega) G1.out).2 z (List.mem_filter.1 h).1
            · exact (clause_sortV (by omega) G2.out).2 z (List.mem_filter.1 h).1)
          have hml := without_length x [-v]
          have hml2 := without_length y [v]
          obtain ⟨D, hD⟩ : ∃ D, D = withoutP x [-v] ++ withoutP y [v] := ⟨_, rfl⟩
          have hDl : D.length ≤ 10000 := by rw [hD, List.length_append]; omega
          rw [← hD] at HE HF HG
          have KC := Lib.hid (cloneI_calls (HA.out.ext hx4) (by omega))
          have HBX := Lib.hid (HB.out.ext hx4)
          clear F1 F2 hml hml2 hD
          go_wp2_with fail
          refine KC.out.mono ?_
          rintro _ w5 ⟨v5, rfl, hb5, hO5⟩
          have hx5 := ext_trans hx4 hb5
          have R05 := R04.ext hb5
          have p := R05.cell (j := 0) rfl
          have hl4 := R04.lt
          have hs4 := hx4.size
          have HWXY : Hid (∀ z ∈ x ++ y, WF z) := Lib.hid (fun z hz => by
            rcases List.mem_append.1 hz with h | h
            · exact HA.out.wf z h
            · exact HB.out.wf z h)
          have O5 := Lib.hid hO5
          have I5 := Lib.hid (HBX.out.ext hb5)
          have hs5 := hb5.size
          have BB := Lib.hid (show (x.length + y.length) * 8 ≤ 140737488355328 by omega)
          clear KC hb5 hO5 R04 HBX
          go_wp2_with (at_builtin; refine wpList_appendAll rfl (.tmp 48) (.tmp 49) 25 rfl 3 _ 8 Try.underlying25 info_int rfl w4.heap.size v5 x.length _ rfl O5.out S' _ _ _ (y.map (Value.int .i64)) rfl (ints_ad I5.out) (by simp) (ints_cells I5.out (.refl _ _)) (oneCell_ints y) BB.out (by omega) hs5 ?_; intro v6 w6 hown6 hb6 hag6 hv6)
          have hl6 := hag6 (fun k => k < w4.heap.size) (fun k hk => by have := (O5.out.lt k hk).1; omega)
          have hx6 := hx5.trans (hb6.mono hs4)
          have R06 := R05.agree hl6 hl4
          have p6 := R06.cell (j := 0) rfl
          have hown6' : w6.ownsRow w4.heap.size 3 1 v6 (x ++ y).length ((x ++ y).map (Value.int .i64)) := by rw [List.length_append]; simpa using hown6
          have I6 := Ints.of_own hown6' HWXY.out
          have KA := applyInts_calls I6 (by rw [List.length_append]; omega) (g := 62) (cp := .pointer (some ⟨w.heap.size, 0, none⟩)) (fun z => varP z != v) (fun args w => by rfl) (fun W hW k hk => res1_quiet (cell_ext p6 hW) _)
          rw [HF.out] at KA
          have KA := Lib.hid KA
          clear hown6 hown6' hag6 hv6 hb6 hl6 I6 O5 I5 HF p R05 R06 p6
          refine KA.out.mono ?_
          rintro _ w7 ⟨u7, rfl, hb7, hI7⟩
          obtain ⟨a7, c7, rfl, _⟩ := hI7.form
          have hx7 := ext_trans hx6 hb7
          have KS := Lib.hid (psorted_calls hI7 (by omega) (by omega) HG.out)
          obtain ⟨o, ho⟩ : ∃ o, o = sortedP D := ⟨_, rfl⟩
          rw [← ho] at KS HE
          clear KA hI7 hb7 ho
          go_wp2_with fail
          refine KS.out.mono ?_
          rintro _ w8 ⟨_, rfl, hb8, hp8⟩
          have hx8 := ext_trans hx7 hb8
          clear KS hb8
          cases o with
          | none =>
            cases hp8
            have R : Hid (E = ([], 7)) := Lib.hid HE.out
            go_wp2
            refine bodyPost_ret (v := .tuple #[.slice none 0 0, .int .i64 7]) (by simp [results, Try.results28, go_sem]) rfl ?_
            exact .mk hx8 (.none R.out)
          | some d =>
            obtain ⟨b9, c9, rfl, he⟩ := hp8
            have HEI := Lib.hid he
            have R : Hid (E = (d, 0)) := Lib.hid HE.out
            clear he
            go_wp2
            refine bodyPost_ret (v := .tuple #[.slice b9 d.length c9, .int .i64 0]) (by simp [results, Try.results28, go_sem]) rfl ?_
            rw [R.out]
            exact .mk hx8 ⟨_, _, rfl, HEI.out.mono fun _ _ => trivial⟩
end Go.Proofs.Ytifcgcdbebgahaa
