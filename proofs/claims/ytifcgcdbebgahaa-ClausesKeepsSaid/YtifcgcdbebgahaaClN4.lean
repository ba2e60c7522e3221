/- The reference's Normal. -/
import Derived.Test.YtifcgcdbebgahaaClN3
namespace Go.Proofs.Ytifcgcdbebgahaa
set_option linter.unusedVariables false
open Go.RowKit
attribute [local go_sem ↓] Go.wp_at_zero Go.wp_at_succ

theorem badN_true {n : Int} {rows : List (List Int)} {k j : Nat} (hk : k < rows.length) (hj : j < (nthL rows k).length) (h : goodP n (nth (nthL rows k) j) = false) : badN n rows = true := by
  unfold badN
  rw [List.any_eq_true]
  exact ⟨_, List.mem_flatten.2 ⟨_, nthL_mem hk, nth_mem hj⟩, by rw [h]; rfl⟩
theorem nextN_none {acc : List (List Int)} {r : List Int} (h : sortedP r = none) : nextN acc r = none := by unfold nextN; rw [h]
theorem nextN_old {acc : List (List Int)} {r d : List Int} (h : sortedP r = some d) (h2 : amongP acc d = true) : nextN acc r = none := by unfold nextN; rw [h]; exact if_pos (of_decide_eq_true h2)
theorem nextN_new {acc : List (List Int)} {r d : List Int} (h : sortedP r = some d) (h2 : amongP acc d = false) : nextN acc r = some d := by unfold nextN; rw [h]; exact if_neg (of_decide_eq_false h2)
set_option maxRecDepth 100000 in
set_option maxHeartbeats 8000000 in
theorem refNormal_calls {S : Nat → Prop} {w : World} {va : Value} {m : Mx} (ha : MatV S w va m) (hrl : sizesS m = 0 → ∀ r ∈ m.rows, r.length ≤ 100000) :
    Calls Try.prog 34 #[va] w (Post w (RetM w.heap.size (normalS m))) := by
  obtain ⟨cols, ll⟩ := m
  obtain ⟨ra, rfl, la⟩ := ha
  obtain ⟨aa, acap, rfl, aad, al1, alm⟩ := la.form
  dsimp only at la al1 aad hrl ⊢
  unfold maxLen at alm
  obtain ⟨i0, hi, hz0, hz1, hz2⟩ := info_parts info_ints
  have HQA := Lib.hid (idx_one Try.underlying22 hi hz1 aad)
  obtain ⟨i3, hi3, hy0, hy1, hy2⟩ := info_parts info_int
  have HQI := Lib.hid (fun (W : World) (S : Nat → Prop) (a : Option Addr) (n cap : Nat) (h : Ad S W a n cap) => idx_one Try.underlying25 hi3 hy1 h)
  have ex := ext_alloc' (ext_alloc w (.cells #[.int .i64 cols, .slice aa ll.length acap] 24)) (.cells #[.int .i64 0, .slice none 0 0] 24)
  have r0 := (row_new w [.int .i64 cols, .slice aa ll.length acap] 24).alloc (.cells #[.int .i64 0, .slice none 0 0] 24)
  have r1 := row_new (w.alloc (.cells #[.int .i64 cols, .slice aa ll.length acap] 24)) [.int .i64 0, .slice none 0 0] 24
  simp only [World.size_alloc] at r1
  have KC := Lib.hid (refSizes_calls (v := .agg #[.int .i64 cols, .slice aa ll.length acap]) (m := ⟨cols, ll⟩) ⟨_, rfl, la.ext ex⟩)
  obtain ⟨c1, hc1⟩ : ∃ c1, c1 = sizesS ⟨cols, ll⟩ := ⟨_, rfl⟩
  rw [← hc1] at KC
  have HC1 := Lib.hid hc1
  have LA := Lib.hid la
  have HRL := Lib.hid hrl
  clear hc1 la hrl hi hz0 hz1 hz2 hi3 hy0 hy1 hy2
  go_enter Try.func34, Try.ntmps34
  go_wp2_with fail
  refine KC.out.mono ?_
  rintro _ w1 ⟨_, rfl, hb1, rfl⟩
  have hx1 := ext_trans ex hb1
  have R0 := r0.ext hb1
  have R1 := r1.ext hb1
  clear KC r0 r1 ex hb1
  obtain ⟨q00, q01⟩ := R0.two
  obtain ⟨q10, q11⟩ := R1.two
  have f10 := R1.free 0
  have f11 := R1.free 1
  have z1 := R1.lt
  by_cases h1 : ¬ c1 = 0
  · have e1 : (c1 != 0) = true := by simp [h1]
    have RR := Lib.hid (normalS_err (m := ⟨cols, ll⟩) (HC1.out ▸ h1))
    rw [← HC1.out] at RR
    clear h1
    go_wp2
    refine bodyPost_ret (v := .tuple #[.agg #[.int .i64 0, .slice none 0 0], .int .i64 c1]) (by simp [results, Try.results34, go_sem, q10, q11, f10, f11]) rfl ?_
    exact .mk (set2_below _ _ hx1 (by omega)) (.none RR.out)
  have h1 := Classical.not_not.1 h1
  have e1 : (c1 != 0) = false := by simp [h1]
  have H0 : Hid (sizesS ⟨cols, ll⟩ = 0) := Lib.hid (HC1.out.symm.trans h1)
  have hsz := sizesS_zero.1 H0.out
  dsimp only at hsz
  obtain ⟨⟨hc0, hc1⟩, hln⟩ := hsz
  have HRL := Lib.hid (HRL.out H0.out)
  clear h1
  go_wp2
  go_loopw [5] (fun i wr => ∃ k : Nat, k ≤ ll.length ∧ i = .int .i64 k ∧ Below w.heap.size w wr ∧ Row wr w.heap.size 24 [.int .i64 cols, .slice aa ll.length acap] ∧ Row wr (w.heap.size + 1) 24 [.int .i64 0, .slice none 0 0] ∧ Hid (∀ i, i < k → ∀ y ∈ nthL ll i, goodP cols y = true)) (fun i _ => ll.length - (intOf i).toNat)
  case atStart => exact ⟨0, Nat.zero_le _, rfl, hx1, R0, R1, Lib.hid fun i hi => absurd hi (by omega)⟩
  case round =>
    clear q00 q01 q10 q11 f10 f11 z1 R0 R1 hx1
    obtain ⟨k, hk, rfl, hb, R0, R1, HG⟩ := hrel
    obtain ⟨wo, hwo⟩ : ∃ wo : World, wo = wr := ⟨_, rfl⟩
    rw [← hwo] at hb R0 R1 ⊢
    clear hwo
    obtain ⟨q00, q01⟩ := R0.two
    have z0 := R0.lt
    by_cases hlt : k < ll.length
    · have q := HQA.out k hlt
      obtain ⟨u, cu, iu⟩ := LA.out.at hb hlt
      obtain ⟨r, hr⟩ : ∃ r, r = nthL ll k := ⟨_, rfl⟩
      rw [← hr] at iu
      have HRR := Lib.hid hr
      obtain ⟨ar, cr, rfl, adr0, lr1, lr2⟩ := iu.form
      unfold maxLen at lr2
      have HQR := Lib.hid (HQI.out wo S ar r.length cr adr0)
      have HRC := Lib.hid (ints_cells0 iu)
      have HAD := Lib.hid adr0
      clear hr adr0 iu
      go_wp2
      go_loopw [6] (fun i wr => ∃ j : Nat, j ≤ r.length ∧ i = .int .i64 j ∧ QW wo wr ∧ Hid (∀ y ∈ r.take j, goodP cols y = true)) (fun i _ => r.length - (intOf i).toNat)
      case atStart => exact ⟨0, Nat.zero_le _, rfl, .refl _, Lib.hid (by simp)⟩
      case round =>
        clear q00 q01
        obtain ⟨j, hj, rfl, hQ, HGJ⟩ := hrel
        have R0r := R0.ext hQ.ext
        obtain ⟨q00, q01⟩ := R0r.two
        have z0 := R0r.lt
        have cu1 := cell_ext cu hQ.ext
        by_cases hjl : j < r.length
        · have qr := HQR.out j hjl
          have cj := cells_at HAD.out hQ.ext HRC.out j hjl
          have HTK := Lib.hid (take_nth hjl)
          obtain ⟨y, hy⟩ : ∃ y, y = nth r j := ⟨_, rfl⟩
          rw [← hy] at cj HTK
          have HY := Lib.hid hy
          obtain ⟨b, hbb⟩ : ∃ b, b = goodP cols y := ⟨_, rfl⟩
          have HV := Lib.hid (fun W => (hbb ▸ good_quiet W (v := cols) (by omega) y : Calls Try.prog 58 #[.int .i64 cols, .int .i64 y] W (QuietP W (.bool b))))
          have HBB := Lib.hid hbb.symm
          clear hy hbb
          go_wp2_with fail
          go_quiet ((go_at_call 58; exact quiet_calls (HV.out _)))
          cases b with
          | true =>
            have HG2 : Hid (∀ y ∈ r.take (j + 1), goodP cols y = true) := Lib.hid (fun z hz => by
              rw [HTK.out] at hz
              rcases List.mem_append.1 hz with h | h
              · exact HGJ.out z h
              · rw [List.mem_singleton.1 h]; exact HBB.out)
            clear HGJ
            go_wp2
            go_roundw
            case rel => exact ⟨j + 1, by omega, by go_num, hQ.drewN nq, HG2⟩
            case measure => simp [intOf]; omega
          | false =>
            have hbn : badN cols ll = true := badN_true hlt (j := j) (by rw [← HRR.out]; exact hjl) (by rw [← HRR.out, ← HY.out]; exact HBB.out)
            have RN := Lib.hid (normalS_bad H0.out hbn)
            have hx5 := ext_drewN (ext_trans hb hQ.ext) nq
            have R1r := R1.ext (hQ.drewN nq).ext
            obtain ⟨w5, hw5⟩ : ∃ w5, w5 = wr.drewN nq := ⟨_, rfl⟩
            rw [← hw5] at hx5 R1r ⊢
            obtain ⟨q10, q11⟩ := R1r.two
            have f10 := R1r.free 0
            have f11 := R1r.free 1
            have z1 := R1r.lt
            clear hw5 hbn
            go_wp2
            refine bodyPost_ret (v := .tuple #[.agg #[.int .i64 0, .slice none 0 0], .int .i64 2]) (by simp [results, Try.results34, go_sem, q10, q11, f10, f11]) rfl ?_
            exact .mk (set2_below _ _ hx5 (by omega)) (.none RN.out)
        · obtain rfl : j = r.length := by omega
          rw [List.take_length] at HGJ
          have HG2 : Hid (∀ i, i < k + 1 → ∀ y ∈ nthL ll i, goodP cols y = true) := Lib.hid (fun i hi => by
            by_cases e : i = k
            · rw [e, ← HRR.out]; exact HGJ.out
            · exact HG.out i (by omega))
          have hb5 := ext_trans hb hQ.ext
          have R1r := R1.ext hQ.ext
          clear HG HGJ
          go_wp2
          go_roundw
          case rel => exact ⟨k + 1, by omega, by go_num, hb5, R0r, R1r, HG2⟩
          case measure => simp [intOf]; omega
    · obtain rfl : k = ll.length := by omega
      have hgood : ∀ r ∈ ll, ∀ y ∈ r, goodP cols y = true := fun r hr y hy => by
        obtain ⟨i, hi, rfl⟩ := List.getElem_of_mem hr
        exact HG.out i hi y (by rw [nthL_eq hi]; exact hy)
      have RN := Lib.hid (normalS_ok H0.out (badN_false.2 hgood))
      dsimp only at RN
      have HN := Lib.hid (norm_len ll)
      obtain ⟨OB, hOB⟩ : ∃ OB, OB = wo.heap.size := ⟨_, rfl⟩
      have r7 := row_new wo [.int .i64 cols, .slice none 0 0] 24
      have hx7 := ext_alloc' hb (.cells #[.int .i64 cols, .slice none 0 0] 24)
      have R07 := R0.alloc (.cells #[.int .i64 cols, .slice none 0 0] 24)
      have R17 := R1.alloc (.cells #[.int .i64 cols, .slice none 0 0] 24)
      have hOw : OB + 1 ≤ (wo.alloc (.cells #[.int .i64 cols, .slice none 0 0] 24)).heap.size := by rw [hOB]; simp
      have hwO : w.heap.size + 1 < OB := by have := R1.lt; omega
      rw [← hOB] at r7
      have HOB := Lib.hid hOB
      clear hgood HG hOB
      go_wp2
      rw [← HOB.out]
      go_loopw [8] (fun i wr => ∃ (k : Nat) (rv : Value) (vs : List Value), k ≤ ll.length ∧ i = .int .i64 k ∧ Below w.heap.size w wr ∧ OB + 1 ≤ wr.heap.size ∧ Row wr w.heap.size 24 [.int .i64 cols, .slice aa ll.length acap] ∧ Row wr (w.heap.size + 1) 24 [.int .i64 0, .slice none 0 0] ∧ Row wr OB 24 [.int .i64 cols, rv] ∧ Hid (OwnList 25 (OB + 1) wr rv vs (normP (ll.take k)))) (fun i _ => ll.length - (intOf i).toNat)
      case atStart => exact ⟨0, .slice none 0 0, [], Nat.zero_le _, rfl, hx7, hOw, R07, R17, r7, Lib.hid (OwnList.nil _ _ _)⟩
      case round =>
        clear q00 q01 z0 r7 hx7 R07 R17 hOw R0 R1 hb
        obtain ⟨k, rv, vs, hk, rfl, hb, hsz, R0, R1, R7, HO⟩ := hrel
        obtain ⟨wp, hwp⟩ : ∃ wp : World, wp = wr := ⟨_, rfl⟩
        rw [← hwp] at hb hsz R0 R1 R7 HO ⊢
        clear hwp
        obtain ⟨q00, q01⟩ := R0.two
        have z0 := R0.lt
        by_cases hlt : k < ll.length
        · have q := HQA.out k hlt
          obtain ⟨u, cu, iu⟩ := LA.out.at hb hlt
          have hrl := HRL.out _ (nthL_mem hlt)
          have HNS := Lib.hid (norm_succ hlt)
          obtain ⟨r, hr⟩ : ∃ r, r = nthL ll k := ⟨_, rfl⟩
          rw [← hr] at iu hrl HNS
          obtain ⟨acc, hacc⟩ : ∃ acc, acc = normP (ll.take k) := ⟨_, rfl⟩
          have hal : acc.length ≤ 100000 := by have := HN.out k; rw [← hacc] at this; omega
          rw [← hacc] at HO HNS
          have KS := Lib.hid (refSorted_calls iu (by omega))
          obtain ⟨o, ho⟩ : ∃ o, o = sortedP r := ⟨_, rfl⟩
          rw [← ho] at KS
          have HOO := Lib.hid ho.symm
          have R0' := Lib.hid R0
          have R1' := Lib.hid R1
          clear hr hacc ho iu
          go_wp2_with fail
          refine KS.out.mono ?_
          rintro _ w2 ⟨_, rfl, hb2, hp⟩
          have hbb := ext_trans hb hb2
          have R0 := R0.ext hb2
          have R1 := R1.ext hb2
          have R72 := R7.ext hb2
          have hs2 := hb2.size
          clear KS cu q00 q01
          cases o with
          | none =>
            cases hp
            have HN2 : Hid (normP (ll.take (k + 1)) = acc) := Lib.hid (by rw [HNS.out, nextN_none HOO.out])
            have O2 := Lib.hid (HO.out.ext hb2)
            rw [← HN2.out] at O2
            clear HO HNS HN2
            go_wp2
            go_roundw
            case rel => exact ⟨k + 1, rv, vs, by omega, by go_num, hbb, by omega, R0, R1, R72, O2⟩
            case measure => simp [intOf]; omega
          | some d =>
            obtain ⟨ad, cd, rfl, hd⟩ := hp
            have hL := (HO.out.ext hb2).lists
            have KA := Lib.hid ((refAmong_quiet hL hd).mono fun _ _ h => h.take)
            obtain ⟨b, hbq⟩ : ∃ b, b = amongP acc d := ⟨_, rfl⟩
            rw [← hbq] at KA
            have HBQ := Lib.hid hbq.symm
            obtain ⟨av, cv, rfl, _⟩ := hL.form
            obtain ⟨q70, q71⟩ := R72.two
            have z7 := R72.lt
            have HD := Lib.hid hd
            clear hbq hL hd
            go_wp2_with fail
            refine KA.out.mono ?_
            rintro _ w3 ⟨_, rfl, hq3, rfl⟩
            have hb3 := ext_trans hbb hq3.ext
            have hb23 := ext_trans hb2 hq3.ext
            have R0 := R0.ext hq3.ext
            have R1 := R1.ext hq3.ext
            have R73 := R72.ext hq3.ext
            have hs3 := hb23.size
            clear KA q70 q71 z7
            cases b with
            | true =>
              have HN2 : Hid (normP (ll.take (k + 1)) = acc) := Lib.hid (by rw [HNS.out, nextN_old HOO.out HBQ.out])
              have O2 : Hid (OwnList 25 (OB + 1) w3 (.slice av acc.length cv) vs (normP (ll.take (k + 1)))) := Lib.hid (by rw [HN2.out]; exact HO.out.ext hb23)
              have hs3' : OB + 1 ≤ w3.heap.size := by omega
              clear HO HNS HN2
              go_wp2
              go_roundw
              case rel => exact ⟨k + 1, _, vs, by omega, by go_num, hb3, hs3', R0, R1, R73, O2⟩
              case measure => simp [intOf]; omega
            | false =>
              have HN2 : Hid (normP (ll.take (k + 1)) = acc ++ [d]) := Lib.hid (by rw [HNS.out, nextN_new HOO.out HBQ.out])
              have HOR := Lib.hid (HO.out.ext hb23).row
              obtain ⟨q70, q71⟩ := R73.two
              have f70 := R73.free 0
              have f71 := R73.free 1
              have z7 := R73.lt
              have hs3' : OB + 1 ≤ w3.heap.size := by omega
              have BB := Lib.hid (show (acc.length + 1) * 24 ≤ 140737488355328 by omega)
              have HNE : Hid ((Value.slice av acc.length cv).ownBlock ≠ some OB) := Lib.hid (fun h => by have := (HOR.out.lt _ h).1; omega)
              have HD3 := Lib.hid (HD.out.ext hq3.ext)
              go_wp2_with (at_builtin; refine wpList_push rfl (.tmp 75) (.tmp 77) 22 rfl 25 _ 24 Try.underlying22 info_ints rfl (OB + 1) _ _ _ rfl HOR.out (.slice ad d.length cd) rfl rfl BB.out (by omega) hs3' ?_; intro g7 c7 w7 hown7 hbel7 hag7 hat7; have R77 := R73.agree (hag7 (fun b => b = OB) (fun k hk e => HNE.out (e ▸ hk))) rfl; have p70 := R77.cell (j := 0) rfl; have p71 := R77.cell (j := 1) rfl; have f7 := R77.free 1; have H7 := Lib.hid (And.intro hown7 (And.intro hbel7 (And.intro hag7 hat7))); clear hown7 hbel7 hag7 hat7)
              obtain ⟨hown7, hbel7, hag7, hat7⟩ := H7.out
              have HP := out_push0 (T := 24) (OB := OB) (B := OB + 1) (by omega) hsz R7 HO.out hb23 (HD3.out) hown7 hag7 hbel7 hat7
              obtain ⟨P3, PO, PA, PB⟩ := HP
              have PB0 := PB w.heap.size (by omega)
              have hszA := PA.size
              have P0 := (R0'.out).agreeN PA (by omega) (by omega)
              have P1 := (R1'.out).agreeN PA (by omega) (by omega)
              have PO2 : Hid (OwnList 25 (OB + 1) (w7.setCell ⟨OB, 1, none⟩ (.slice (some ⟨g7, 0, none⟩) (acc.length + 1) c7)) (.slice (some ⟨g7, 0, none⟩) (acc.length + 1) c7) (vs ++ [.slice ad d.length cd]) (normP (ll.take (k + 1)))) := Lib.hid (by rw [HN2.out]; exact PO)
              have HBZ := Lib.hid (hb.trans PB0)
              have HSZ := Lib.hid (Nat.le_trans hsz hszA)
              have HP9 := Lib.hid (And.intro P0 (And.intro P1 P3))
              clear PO PA PB PB0 P0 P1 P3 HO HNS HN2 H7 hown7 hbel7 hag7 hat7 hszA
              go_wp2
              go_roundw
              case rel => exact ⟨k + 1, _, _, by omega, by go_num, HBZ.out, HSZ.out, HP9.out.1, HP9.out.2.1, HP9.out.2.2, PO2⟩
              case measure => simp [intOf]; omega
        · obtain rfl : k = ll.length := by omega
          rw [List.take_length] at HO
          have hL := HO.out.lists
          obtain ⟨D2, hD2⟩ : ∃ D2, D2 = normP ll := ⟨_, rfl⟩
          rw [← hD2] at hL RN
          obtain ⟨av, cv, rfl, _⟩ := hL.form
          obtain ⟨q70, q71⟩ := R7.two
          obtain ⟨q10, q11⟩ := R1.two
          have f10 := R1.free 0
          have f11 := R1.free 1
          have z1 := R1.lt
          have z7 := R7.lt
          have HL := Lib.hid hL
          clear hL hD2 HO
          go_wp2
          refine bodyPost_ret (v := .tuple #[.agg #[.int .i64 cols, .slice av D2.length cv], .int .i64 0]) (by simp [results, Try.results34, go_sem, q10, q11, f10, f11]) rfl ?_
          refine .mk (set2_below _ _ hb (by omega)) (.mk RN.out ((HL.out.agree (set2_agree _ _ (show w.heap.size + 1 < OB + 1 by omega))).mono fun b hb => by omega))
end Go.Proofs.Ytifcgcdbebgahaa
