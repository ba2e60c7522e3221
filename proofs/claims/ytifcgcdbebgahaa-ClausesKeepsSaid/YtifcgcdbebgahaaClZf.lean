/- The program's sorted. -/
import Derived.Test.YtifcgcdbebgahaaClZe
namespace Go.Proofs.Ytifcgcdbebgahaa
set_option linter.unusedVariables false
open Go.RowKit
attribute [local go_sem ↓] Go.wp_at_zero Go.wp_at_succ

set_option maxRecDepth 100000 in
set_option maxHeartbeats 4000000 in
theorem psorted_calls {S : Nat → Prop} {w : World} {va : Value} {c : List Int} {n : Int} (ha : Ints S w va c) (hl : c.length ≤ 100000) (hn : n ≤ 100000) (hg : ∀ z ∈ c, goodP n z = true) :
    Calls Try.prog 63 #[va] w (Post w (PRow w.heap.size (sortedP c))) := by
  obtain ⟨a, cap, rfl, ad, l1, lm, hc, hwf⟩ := ha
  unfold maxLen at lm
  obtain ⟨i, hi, hz1, hz2, hz3⟩ := info_parts info_int
  have HQ := Lib.hid (idx_one Try.underlying25 hi hz2 ad)
  have HC := Lib.hid hc
  have HG := Lib.hid hg
  obtain ⟨E, hE⟩ : ∃ E, E = sortedP c := ⟨_, rfl⟩
  rw [← hE]
  have HE := Lib.hid hE
  have hM0 : MapV keyI (w.alloc (.map #[] 0)) w.heap.size (litV (c.take 0)) 0 := MapV.made keyI w
  have hx0 := ext_alloc w (.map #[] 0)
  have hmm := @run_makeMap Try.prog
  obtain ⟨B, hB⟩ : ∃ B, B = w.heap.size := ⟨_, rfl⟩
  rw [← hB] at hM0
  have HB := Lib.hid hB
  clear hc hwf hE hg hB
  go_enter Try.func63, Try.ntmps63
  go_wp2
  rw [← HB.out]
  go_loopw [15] (fun i wr => ∃ (k cnt : Nat) (d : List Int), k ≤ c.length ∧ i = .int .i64 k ∧ cnt ≤ k ∧ Below w.heap.size w wr ∧ MapV keyI wr B (litV (c.take k)) cnt ∧ Hid (sortedP (c.take k) = some d)) (fun i _ => c.length - (intOf i).toNat)
  case atStart => exact ⟨0, 0, [], Nat.zero_le _, rfl, Nat.le_refl _, hx0, hM0, Lib.hid rfl⟩
  case round =>
    clear hM0 hx0
    obtain ⟨k, cnt, d, hk, rfl, hck, hb, hM, hF⟩ := hrel
    by_cases hlt : k < c.length
    · have q := HQ.out k hlt
      have cx := cells_at ad hb HC.out k hlt
      have HS := Lib.hid (sorted_succ hlt)
      have HTK := Lib.hid (take_nth hlt)
      have hgx := HG.out _ (nth_mem hlt)
      have HGT : Hid (∀ z ∈ c.take k, goodP n z = true) := Lib.hid (fun z hz => HG.out z (List.mem_of_mem_take hz))
      obtain ⟨x, hx⟩ : ∃ x, x = nth c k := ⟨_, rfl⟩
      rw [← hx] at cx HS hgx HTK
      have HS : Hid (sortedP (c.take (k + 1)) = insP d x) := Lib.hid (by rw [HS.out, hF.out]; rfl)
      have hwv := var_wf hn hgx
      have HGX := Lib.hid hgx
      obtain ⟨v, hv⟩ : ∃ v, v = varP x := ⟨_, rfl⟩
      have HV := Lib.hid (fun W => (hv ▸ (variable_quiet W x).mono fun _ _ h => h.take : Calls Try.prog 43 #[.int .i64 x] W fun e W' => ∃ u, e = .returned u ∧ QW W W' ∧ u = .int .i64 v))
      rw [← hv] at hwv
      have HVV := Lib.hid hv
      have hcm : cnt < maxLen := by unfold maxLen; omega
      have hs0 := hb.size
      clear hx hgx hv
      go_wp2_with fail
      refine (HV.out _).mono ?_
      rintro _ w2 ⟨_, rfl, hq2, rfl⟩
      have hb2 := ext_trans hb hq2.ext
      have hM2 := hM.ext hq2.ext
      clear cx hb hM hq2 hs0
      have hs2 := hb2.size
      have hcase : (litOf (c.take k) v = none ∨ litOf (c.take k) v = some x) ∨ ∃ y, litOf (c.take k) v = some y ∧ y ≠ x := by
        cases e : litOf (c.take k) v with
        | none => exact .inl (.inl rfl)
        | some y =>
          by_cases h : y = x
          · rw [h]; exact .inl (.inr rfl)
          · exact .inr ⟨y, rfl, h⟩
      rcases hcase with hor | ⟨y, hy, hne⟩
      · obtain ⟨d2, hd2⟩ := sorted_more hn HGT.out HGX.out hF.out (by rw [← HVV.out]; exact hor)
        have HF2 : Hid (sortedP (c.take (k + 1)) = some d2) := Lib.hid (HS.out.trans hd2)
        have HLM := Lib.hid (litV_more (l := c.take k) (x := x) (by rw [← HVV.out]; exact hor))
        rw [← HVV.out] at HLM
        have fin : ∀ w5, MapV keyI w5 B (fun z => if z = v then some (.int .i64 x) else litV (c.take k) z) (if (litV (c.take k) v).isSome = true then cnt else cnt + 1) → ∃ cnt', cnt' ≤ k + 1 ∧ MapV keyI w5 B (litV (c.take (k + 1))) cnt' := fun w5 h5 => by
          rw [HLM.out, ← HTK.out] at h5
          exact ⟨_, by split <;> omega, h5⟩
        have FIN := Lib.hid fin
        clear hd2 fin
        rcases hor with hno | hyes
        · have hmiss : litV (c.take k) v = none := by unfold litV; rw [hno]; rfl
          have HMISS := Lib.hid hmiss
          clear hno hmiss
          go_wp2_with (at_lookup; refine wpList_miss rfl _ _ 71 rfl 3 Try.underlying71 (.int .i64 0) (zeroI _) rfl hM2 v rfl hwv HMISS.out ?_)
          refine (HV.out _).mono ?_
          rintro _ w3 ⟨_, rfl, hq3, rfl⟩
          have hb3 := ext_trans hb2 hq3.ext
          have hM3 := hM2.ext hq3.ext
          clear hM2 hq3 hs2 hb2
          have hs3 := hb3.size
          go_wp2_with (at_mapUpdate; refine wpList_upd rfl _ _ _ 71 rfl 3 Try.underlying71 rfl hM3 hcm v rfl hwv (.int .i64 x) rfl ?_; intro w4 hM4 hg4)
          obtain ⟨cnt', hc', hM5⟩ := FIN.out w4 hM4
          have hb4 := hb3.grown hg4 hs3 (fun j hj => by cases hj; rw [HB.out]; exact Nat.le_refl _)
          have HM5 := Lib.hid hM5
          clear hM4 hM5 hg4
          go_wp2
          go_roundw
          case rel => exact ⟨k + 1, cnt', d2, by omega, by go_num, hc', hb4, HM5.out, HF2⟩
          case measure => simp [intOf]; omega
        · have hhit : litV (c.take k) v = some (.int .i64 x) := by unfold litV; rw [hyes]; rfl
          have HHIT := Lib.hid hhit
          clear hyes hhit
          go_wp2_with (at_lookup; refine wpList_hit rfl _ _ 71 rfl 3 Try.underlying71 (.int .i64 0) (zeroI _) rfl hM2 v rfl hwv _ HHIT.out ?_)
          refine (HV.out _).mono ?_
          rintro _ w3 ⟨_, rfl, hq3, rfl⟩
          have hb3 := ext_trans hb2 hq3.ext
          have hM3 := hM2.ext hq3.ext
          clear hM2 hq3 hs2 hb2
          have hs3 := hb3.size
          go_wp2_with (at_mapUpdate; refine wpList_upd rfl _ _ _ 71 rfl 3 Try.underlying71 rfl hM3 hcm v rfl hwv (.int .i64 x) rfl ?_; intro w4 hM4 hg4)
          obtain ⟨cnt', hc', hM5⟩ := FIN.out w4 hM4
          have hb4 := hb3.grown hg4 hs3 (fun j hj => by cases hj; rw [HB.out]; exact Nat.le_refl _)
          have HM5 := Lib.hid hM5
          clear hM4 hM5 hg4
          go_wp2
          go_roundw
          case rel => exact ⟨k + 1, cnt', d2, by omega, by go_num, hc', hb4, HM5.out, HF2⟩
          case measure => simp [intOf]; omega
      · have hR := sorted_clash hn HGT.out HGX.out hF.out (by rw [← HVV.out]; exact hy) hne
        have R : Hid (E = none) := Lib.hid (HE.out.trans (sorted_none (HS.out.trans hR)))
        have HHIT : Hid (litV (c.take k) v = some (.int .i64 y)) := Lib.hid (by unfold litV; rw [hy]; rfl)
        have e1 : (y != x) = true := by simp [hne]
        clear hR hy hne
        go_wp2_with (at_lookup; refine wpList_hit rfl _ _ 71 rfl 3 Try.underlying71 (.int .i64 0) (zeroI _) rfl hM2 v rfl hwv _ HHIT.out ?_)
        refine bodyPost_ret (v := .tuple #[.slice none 0 0, .bool false]) (by simp [results, Try.results63, go_sem]) rfl ?_
        rw [R.out]
        exact .mk hb2 rfl
    · obtain rfl : k = c.length := by omega
      rw [List.take_length] at hF hM
      have R : Hid (E = some d) := Lib.hid (HE.out.trans hF.out)
      obtain ⟨hsd, hmd⟩ := sortedP_inv hn HG.out hF.out
      obtain ⟨hks, hkm⟩ := keys_of hsd hmd
      have hdl := sorted_length hF.out
      have HLD : Hid (∀ x ∈ d, litV c (varP x) = some (.int .i64 x)) := Lib.hid (fun x hx => by unfold litV; rw [litOf_in hsd hmd ((hmd x).1 hx)]; rfl)
      have HVW : Hid (∀ x ∈ d, WF (varP x) ∧ WF x) := Lib.hid (fun x hx => by have := HG.out x ((hmd x).1 hx); exact ⟨var_wf hn this, var_wf0 hn this⟩)
      obtain ⟨ks, hkse⟩ : ∃ ks, ks = d.map varP := ⟨_, rfl⟩
      have HKS := Lib.hid hkse
      have hkl : ks.length = d.length := by rw [hkse]; simp
      rw [← hkse] at hks hkm
      have hkw : ∀ x ∈ ks, WF x := fun x hx => by rw [hkse] at hx; obtain ⟨y, hy, rfl⟩ := List.mem_map.1 hx; exact (HVW.out y hy).1
      have HKEY := Lib.hid (fun (W : World) (h : MapV keyI W B (litV c) cnt) => sortedKeys_calls h (by omega) hks hkw (fun x _ => hkm x))
      have HKW := Lib.hid hkw
      have hs0 := hb.size
      have hbl := hM.lt
      have HM := Lib.hid hM
      have HWB : Hid (w.heap.size = B) := Lib.hid HB.out.symm
      have hBw : w.heap.size ≤ B := by rw [HWB.out]; exact Nat.le_refl _
      have HKL := Lib.hid hkl
      clear hF hsd hmd hks hkm hkse hkw hkl
      go_wp2_with (first
        | (refine wpList_maplen rfl (.tmp 37) 71 rfl 3 Try.underlying71 rfl hM ?_)
        | (at_make; refine wpList_make_own _ rfl _ _ 25 rfl (B + 1) 3 i (.int .i64 0) 1 Try.underlying25 hi hz1 hz2 .i64 .i64 _ cnt rfl rfl rfl (by rw [hz3]; omega) (by unfold maxLen; omega) (by omega) ?_; intro w1 hown1 hgrow1; have HO1 := Lib.hid hown1; have hb1 := hb.grown hgrow1 hs0 (fun j hj => by cases hj); have HM1 := Lib.hid (HM.out.grown hgrow1 (by simp)); have hs1 := hgrow1.size; clear hown1 hgrow1))
      refine (keys_calls B w1).mono ?_
      rintro _ _ ⟨rfl, rfl⟩
      go_wp2_with fail
      refine (HKEY.out w1 HM1.out).mono ?_
      rintro _ w3 ⟨vk, rfl, hb3, hOK⟩
      have hb13 := ext_trans (ext_alloc w1 (.cells #[.map (some B)] 71)) hb3
      have hb3' := ext_trans hb1 hb13
      have HM3 := Lib.hid (HM1.out.ext hb13)
      have hT : Two (B + 1) w3 (.slice (some ⟨wr.heap.size, 0, none⟩) 0 cnt) [] vk ks := ⟨owns_ext HO1.out hb13, owns_base hOK (by omega), fun k hk e => by
        cases hk
        have h1 : w1.heap.size ≤ wr.heap.size := (hOK.lt _ e).1
        have h2 : wr.heap.size < w1.heap.size := (HO1.out.lt wr.heap.size rfl).2
        omega⟩
      have IK := Ints.of_own hOK HKW.out
      obtain ⟨ak, ck, rfl, hak, hk1, hk2⟩ := IK.form
      have HQK := Lib.hid (idx_one Try.underlying25 hi hz2 hak)
      obtain ⟨kn, hkn⟩ : ∃ kn, kn = ks.length := ⟨_, rfl⟩
      have HKN := Lib.hid hkn
      rw [← hkn] at HQK hT ⊢
      have hknl : kn = d.length := by rw [hkn]; exact HKL.out
      have HKND := Lib.hid hknl
      have HT := Lib.hid hT
      have hs3 : B + 1 ≤ w3.heap.size := by have := hb13.size; omega
      have hB1 : w.heap.size ≤ B + 1 := by omega
      have hT0 : Two (B + 1) w3 (.slice (some ⟨wr.heap.size, 0, none⟩) 0 cnt) (d.take 0) (.slice ak kn ck) ks := by simpa using hT
      have HT0 := Lib.hid hT0
      have hkn1 : kn ≤ 100000 := by omega
      clear HKEY HM HM1 HO1 hb3 hOK IK hak hk1 hk2 hT HT hkn hknl hb hM hb13 hb1 hs1 hT0 hs0 HQ
      go_wp2
      go_loopw [9, 44] (fun vo i wi => ∃ j : Nat, j ≤ kn ∧ i = .int .i64 j ∧ Below w.heap.size w wi ∧ B + 1 ≤ wi.heap.size ∧ Hid (MapV keyI wi B (litV c) cnt) ∧ Hid (Two (B + 1) wi vo (d.take j) (.slice ak kn ck) ks)) (fun _ i _ => kn - (intOf i).toNat)
      case atStart => exact ⟨0, Nat.zero_le _, rfl, hb3', hs3, HM3, HT0⟩
      case round =>
        clear hb3' hs3 HM3 HT0
        obtain ⟨j, hj, rfl, hb, hsB, hM, hT⟩ := hrel
        by_cases hlt : j < kn
        · have q := HQK.out j hlt
          have hjd : j < d.length := by rw [← HKND.out]; exact hlt
          have hck := ints_cells0 (Ints.of_own hT.out.o2 HKW.out) j (by rw [← HKN.out]; exact hlt)
          have hkj : nth ks j = varP (nth d j) := by rw [HKS.out]; simp [nth, hjd]
          rw [hkj] at hck
          have HTK := Lib.hid (take_nth hjd)
          have hmj := nth_mem hjd
          obtain ⟨x, hx⟩ : ∃ x, x = nth d j := ⟨_, rfl⟩
          rw [← hx] at hck HTK hmj
          have HLX := Lib.hid (HLD.out x hmj)
          have hwv := (HVW.out x hmj).1
          obtain ⟨v, hv⟩ : ∃ v, v = varP x := ⟨_, rfl⟩
          rw [← hv] at hck HLX hwv
          have HGV : Hid ((litV c v).getD (.int .i64 0) = .int .i64 x) := Lib.hid (by rw [HLX.out]; rfl)
          have hM1 := hM.out
          have O1 := Lib.hid hT.out.o1
          obtain ⟨l1, hl1⟩ : ∃ l1, l1 = d.take j := ⟨_, rfl⟩
          have hl1n : l1.length ≤ 100000 := by rw [hl1, List.length_take]; omega
          rw [← hl1] at O1 hT HTK
          have hbB : B < B + 1 := by omega
          clear hkj hmj hx hv hl1
          go_wp2_with (first
            | (at_lookup; refine wpList_get rfl _ _ 71 rfl 3 Try.underlying71 (.int .i64 0) (zeroI _) rfl hM1 v rfl hwv _ HGV.out ?_)
            | (at_builtin; refine wpList_push rfl (.tmp 48) (.tmp 52) 25 rfl 3 _ 8 Try.underlying25 info_int rfl (B + 1) _ _ _ rfl O1.out (.int .i64 x) rfl rfl (by omega) (by omega) hsB ?_; intro g7 c7 w7 hown7 hbel7 hag7 hat7; have HT7 := Lib.hid (hT.out.push1 hown7 hag7 hat7); have HM7 := Lib.hid (hM.out.agree (hag7 (fun k => k < B + 1) (fun k hk => by have := (O1.out.lt k hk).1; omega)) hbB); have hb7 := hb.trans (hbel7.mono hB1); have hs7 := Nat.le_trans hsB hbel7.size; clear hown7 hbel7 hag7 hat7))
          rw [← HTK.out] at HT7
          have e1 : (d.take (j + 1)).length = l1.length + 1 := by rw [HTK.out]; simp
          rw [e1] at HT7
          clear e1 hT O1 hM hM1
          go_wp2
          go_roundw
          case rel => exact ⟨j + 1, by omega, by go_num, hb7, hs7, HM7, HT7⟩
          case measure => simp [intOf]; omega
        · have hjd : j = d.length := by rw [← HKND.out]; omega
          have hT2 := hT.out
          rw [hjd, List.take_length] at hT2
          have I := Ints.of_own hT2.o1 (fun x hx => (HVW.out x hx).2)
          obtain ⟨a9, c9, rfl, _⟩ := I.form
          have HI := Lib.hid I
          clear hT2 I hT hM hjd
          go_wp2
          refine bodyPost_ret (v := .tuple #[.slice a9 d.length c9, .bool true]) (by simp [results, Try.results63, go_sem]) rfl ?_
          rw [R.out]
          exact .mk hb ⟨_, _, rfl, HI.out.mono fun b hb => by omega⟩
end Go.Proofs.Ytifcgcdbebgahaa
