/- The walk of the statement on the classes of a partition. -/
import Derived.Test.YtnmbiibchajehaaWalks2
import Derived.Test.YtnmbiibchajehaaSorted
namespace Go.Proofs.Ytnmbiibchajehaa
set_option linter.unusedVariables false
open Go.RowKit

theorem info_bool : (Try.prog.info? 4).map (fun i => (i.zero, i.size, i.bytes)) = some (some (.bool false), 1, 1) := by kernel_rfl

/-- Which elements have been seen: those for which f says yes. -/
def seenRow (f : Nat → Bool) (n : Nat) : List Value := (keys f n).map Value.bool
theorem seenRow_get {f : Nat → Bool} {n i : Nat} (h : i < n) : (seenRow f n)[i]? = some (.bool (f i)) := by simp [seenRow, keys, h]
theorem seenRow_congr {f g : Nat → Bool} {n : Nat} (h : ∀ i, i < n → f i = g i) : seenRow f n = seenRow g n := by
  unfold seenRow keys
  congr 1
  apply List.map_congr_left
  intro i hi
  exact h i (by simpa using hi)
theorem seenRow_set {f : Nat → Bool} {n i : Nat} (h : i < n) : (seenRow f n).set i (.bool true) = seenRow (fun j => if j = i then true else f j) n := by
  apply List.ext_getElem?
  intro j
  by_cases hj : j < n
  · rw [seenRow_get hj]
    by_cases e : j = i
    · subst e; rw [List.getElem?_set_self (by simp [seenRow]; exact hj)]; simp
    · rw [List.getElem?_set_ne (fun h => e h.symm), seenRow_get hj, if_neg e]
  · simp [seenRow, hj]
theorem seenRow_all {f : Nat → Bool} {n : Nat} (h : ∀ i, i < n → f i = true) : seenRow f n = List.replicate n (.bool true) := by
  rw [seenRow_congr (g := fun _ => true) h]
  apply List.ext_getElem?
  intro j
  by_cases hj : j < n
  · rw [seenRow_get hj]; simp [hj]
  · simp [seenRow, hj]
theorem seenRow_none (n : Nat) : seenRow (fun _ => false) n = List.replicate n (.bool false) := by
  apply List.ext_getElem?
  intro j
  by_cases hj : j < n
  · rw [seenRow_get hj]; simp [hj]
  · simp [seenRow, hj]

/-- What lists read as, in a later world. -/
theorem Lists.at {S : Nat → Prop} {w : World} {a : Option Addr} {cap : Nat} {ll : List (List Int)} (h : Lists S w (.slice a ll.length cap) ll) {j : Nat} (hj : j < ll.length) {w' : World} (hw : Below w.heap.size w w') :
    ∃ u, w'.cell? (adr a j) = some u ∧ Ints S w' u (nthL ll j) := by
  obtain ⟨a', cap', hv, ha, _, _, hc⟩ := h
  cases hv
  obtain ⟨u, hu, hi⟩ := hc j hj
  exact ⟨u, (ha.cell (.of_ext hw) hj).trans hu, hi.ext hw⟩

/-- What lists read as, in every later world. -/
theorem Lists.at2 {S : Nat → Prop} {w : World} {a : Option Addr} {cap : Nat} {ll : List (List Int)} (h : Lists S w (.slice a ll.length cap) ll) {j : Nat} (hj : j < ll.length) :
    ∃ u, (∀ w', Below w.heap.size w w' → w'.cell? (adr a j) = some u) ∧ Ints S w u (nthL ll j) := by
  obtain ⟨a', cap', hv, ha, _, _, hc⟩ := h
  cases hv
  obtain ⟨u, hu, hi⟩ := hc j hj
  exact ⟨u, fun w' hw => (ha.cell (.of_ext hw) hj).trans hu, hi⟩

theorem classesR_good {l : List Int} (h : Good l) : classesR l = (classesS l, 0) := by simp [classesR, checkS_good.2 h]
theorem ofS_small {l : List Int} (h : l.length ≤ 65536) : ofS l = (labs l, 0) := by simp [ofS, show ¬ 65536 < l.length by omega]

set_option maxRecDepth 100000 in
set_option maxHeartbeats 4000000 in
theorem coversRest {S : Nat → Prop} {w : World} {v : Value} {l : List Int} (h : Ints S w v l) (y : Int) (hy : -1000 ≤ y ∧ y ≤ 1000) (hg : Good l) (hl30 : l.length ≤ 30) (hgd : (![l].any (goodBad (nthL [l] 0).length)) = true) :
    Calls Try.prog 10 #[v, .int .i64 y] w (Post w fun _ r => r = .bool true) := by
  have h0 := h
  obtain ⟨a, cap, rfl, ha, _, hm, hc, hf⟩ := h0
  clear hm
  obtain ⟨i0, hi, hz0, hz1, hz2⟩ := info_parts info3
  have hix := idx_one Try.underlying22 hi hz1 ha
  obtain ⟨i1, hj, hy0, hy1, hy2⟩ := info_parts info_slice
  have hns := numS_small hg
  obtain ⟨m, hm⟩ := Int.eq_ofNat_of_zero_le hns.1
  have HM := Lib.hid hm
  have HGD := Lib.hid hgd
  clear hm hgd
  have hmk := run_make_row' 57 4 (.bool false) 1 Try.underlying57 info_bool rfl .i64 .i64 l.length (by omega) (by omega)
  have hcl : (classesS l).length = m := by rw [length_classesS, HM.out]; omega
  have HCL := Lib.hid hcl
  clear hcl
  go_enter Try.func10, Try.ntmps10
  go_wp2_with fail
  have L := lit_lists w _ rfl [.slice a l.length cap] [l] 22 ⟨h.all, trivial⟩ (by simp)
  refine (good_calls L (by simp)).mono ?_
  rintro _ w1 ⟨_, rfl, hb1, rfl⟩
  have e1 := ext_trans (ext_alloc w _) hb1
  rw [HGD.out]
  clear L
  go_wp2_with fail
  have c2 := classes_calls (h.ext e1)
  rw [classesR_good hg] at c2
  refine c2.mono ?_
  rintro _ w2 ⟨_, rfl, hb2, vc, rfl, ic⟩
  have e2 := ext_trans e1 hb2
  clear c2
  go_wp2_with fail
  refine (countGood_calls hg (h.ext e2)).mono ?_
  rintro _ w3 ⟨_, rfl, hb3, rfl⟩
  have e3 := ext_trans e2 hb3
  have ic3 := ic.ext hb3
  have ic4 := ic3
  obtain ⟨ac, cc, rfl, hac, _⟩ := ic4
  obtain ⟨lc, hlc⟩ : ∃ lc, lc = classesS l := ⟨_, rfl⟩
  rw [← hlc] at ic3 hac ⊢
  have hlm : lc.length = m := by rw [hlc]; exact HCL.out
  have HLC := Lib.hid hlc
  rw [hlm] at hac ⊢
  rw [HM.out]
  have hixc := idx_one Try.underlying32 hj hy1 hac
  have HLM := Lib.hid hlm
  clear hlc hlm ic
  have hB3 := e3.size
  go_wp2
  go_loopw [61] (fun i wr => ∃ k : Nat, k ≤ m ∧ i = .int .i64 k ∧ Below w3.heap.size w3 wr ∧ Row wr w3.heap.size 4 (seenRow (fun i => decide (nth l i < k)) l.length)) (fun i _ => m - (intOf i).toNat)
  case atStart =>
    refine ⟨0, by omega, rfl, ext_alloc _ _, ?_⟩
    rw [seenRow_congr (g := fun _ => false) (fun i hi => by have := (hg.2 i hi).1; simp; omega), seenRow_none]
    exact Row.made w3 (.bool false) l.length 4
  case round =>
    obtain ⟨wi, rfl⟩ : ∃ wi : World, wi = wr := ⟨_, rfl⟩
    obtain ⟨k, hk, rfl, hb, hR⟩ := hrel
    have hsz := hb.size
    by_cases hk2 : k < m
    · obtain ⟨u, hu, iu⟩ := ic3.at2 (j := k) (by have := HLM.out; omega)
      have hcE : nthL lc k = classS l (k : Int) := by rw [HLC.out]; exact nthL_classesS (by rw [HM.out]; omega)
      rw [hcE] at iu
      obtain ⟨c, hcc⟩ : ∃ c, c = classS l (k : Int) := ⟨_, rfl⟩
      rw [← hcc] at iu
      have iu0 := iu
      obtain ⟨b, cb, rfl, hbd, _, hbm, hbc, hbf⟩ := iu0
      have hixb := idx_one Try.underlying22 hi hz1 hbd
      have hpos : 0 < c.length := by rw [hcc]; exact classS_ne hg (by omega) (by rw [HM.out]; omega)
      have hsort : ∀ i, i + 1 < c.length → ¬ nth c (i + 1) < nth c i := by
        intro i hi
        have := sorted_nth (by rw [hcc]; exact classS_sorted l k : c.Pairwise (· < ·)) (show i < i + 1 by omega) hi
        omega
      have hmemc : ∀ j, j < c.length → ∃ p : Nat, p < l.length ∧ nth l p = k ∧ nth c j = (p : Int) := by
        intro j hj
        have := nth_mem hj
        rw [hcc] at this
        obtain ⟨p, hp, h1, h2⟩ := mem_classS.1 this
        exact ⟨p, hp, h1, by rw [hcc]; exact h2⟩
      have hfresh : ∀ j, j < c.length → nth c j ∉ c.take j := by
        intro j hj hmem
        obtain ⟨i, hi2, e⟩ := List.mem_take_iff_getElem.1 hmem
        have := sorted_nth (by rw [hcc]; exact classS_sorted l k : c.Pairwise (· < ·)) (show i < j by omega) hj
        rw [nth_eq (by omega : i < c.length), e] at this
        omega
      have hclen : c.length ≤ 30 := by
        rw [hcc]; unfold classS; rw [List.length_map]
        exact Nat.le_trans (List.length_filter_le _ _) (by simpa using hl30)
      have HSO := Lib.hid (fun n : Nat => isSorted_quiet ((iu.ext hb).drewN n) hsort)
      have HME := Lib.hid hmemc
      have HFR := Lib.hid hfresh
      have HCC := Lib.hid hcc
      have HBC := Lib.hid (fun (w' : World) (hw' : Below w3.heap.size w3 w') => cells_at hbd hw' hbc)
      have HHA := Lib.hid (fun (w' : World) (hw' : Below w3.heap.size w3 w') => cells_at ha (ext_trans e3 hw') hc)
      have qk := hixc k (by omega)
      have hu' : wi.cell? (adr ac k) = some (.slice b c.length cb) := hu _ hb
      have pk0 := hixb 0 hpos
      have pk1 := cells_at hbd hb hbc 0 hpos
      have pk0' : ∀ W, (Instr.indexAt 22 (.slice b c.length cb) (.int .i64 0)).run Try.prog W = .ok (.pointer (some (adr b 0))) W := pk0
      have hz : ((c.length : Int) == 0) = false := beq_eq_false_iff_ne.2 (by omega)
      have hmz : ((m : Nat) : Int) ≤ 30 := by have := numS_le l hg.2 l.length (Nat.le_refl _); rw [List.take_length, HM.out] at this; omega
      clear hcc hcE hsort hmemc hfresh pk0 hbc
      go_wp2
      by_cases hk0 : k = 0
      · have hkt : decide (0 < k) = false := by simp; omega
        have HK0 := Lib.hid hk0
        clear hk0
        go_quiet ((go_at_call 36; exact quiet_calls (HSO.out _)))
        go_wp2
        go_loopw [93] (fun i wr => ∃ j : Nat, j ≤ c.length ∧ i = .int .i64 j ∧ Below w3.heap.size w3 wr ∧ Row wr w3.heap.size 4 (seenRow (fun p => decide (nth l p < k) || (decide (nth l p = k) && decide ((p : Int) ∈ c.take j))) l.length)) (fun i _ => c.length - (intOf i).toNat)
        case atStart =>
          refine ⟨0, by omega, rfl, hb.trans (drewN_below _ _ _), ?_⟩
          have := hR.agree (drewN_agree (fun _ => True) _ nq) trivial
          rw [seenRow_congr (g := fun p => decide (nth l p < k)) (fun p _ => by simp)]
          exact this
        case round =>
          obtain ⟨j, hj, rfl, hb5, hR5⟩ := hrel
          by_cases hjl : j < c.length
          · obtain ⟨p, hp, hpk, hcp⟩ := HME.out j hjl
            have q := hixb j hjl
            have pj : wr.cell? (adr b j) = some (.int .i64 (p : Int)) := by rw [HBC.out wr hb5 j hjl, hcp]
            have qa := hix p hp
            have pa : wr.cell? (adr a p) = some (.int .i64 (k : Int)) := by rw [HHA.out wr hb5 p hp, hpk]
            have hs : (decide (nth l p < k) || (decide (nth l p = k) && decide ((p : Int) ∈ c.take j))) = false := by
              have := HFR.out j hjl
              rw [hcp] at this
              rw [hpk]
              simp [this]
            have ps : wr.cell? ⟨w3.heap.size, p, none⟩ = some (.bool false) := by
              have := hR5.cell (seenRow_get hp)
              rw [hs] at this
              exact this
            have hfz := hR5.free p
            have HHP := Lib.hid hpk
            have HCP := Lib.hid hcp
            have HT := Lib.hid (take_nth hjl)
            have hknk : ((k : Int) != (k : Int)) = false := by simp
            clear hpk hcp hs
            go_wp2
            go_roundw
            case rel =>
              refine ⟨j + 1, by omega, by go_num, hb5.setCell (p := ⟨w3.heap.size, p, none⟩) (Nat.le_refl _) _, ?_⟩
              have := hR5.set p (.bool true)
              rw [seenRow_set hp] at this
              rw [seenRow_congr (fun i _ => ?_)]
              · exact this
              · rw [HT.out, HCP.out]
                by_cases e : i = p
                · subst e; simp [HHP.out]
                · have : ¬ (i : Int) = (p : Int) := by omega
                  simp [e, this]
            case measure => simp [intOf]; omega
          · have hj' : j = c.length := by omega
            subst hj'
            go_wp2
            go_roundw
            case rel =>
              refine ⟨k + 1, by omega, by go_num, hb5, ?_⟩
              rw [seenRow_congr (fun i hi => ?_)]
              · exact hR5
              · rw [List.take_length, HCC.out]
                by_cases e1 : nth l i < k
                · have : nth l i < (k : Int) + 1 := by omega
                  simp [e1, this]
                · by_cases e2 : nth l i = k
                  · have e3 : (i : Int) ∈ classS l (k : Int) := mem_classS.2 ⟨i, hi, e2, rfl⟩
                    have : (k : Int) < (k : Int) + 1 := by omega
                    simp [e2, e3, this]
                  · have : ¬ nth l i < (k : Int) + 1 := by omega
                    simp [e1, e2, this]
            case measure => simp [intOf]; omega
      · have hkt : decide (0 < k) = true := by simp; omega
        obtain ⟨k', hk'⟩ : ∃ k' : Nat, k = k' + 1 := ⟨k - 1, by omega⟩
        obtain ⟨u2, hu2, iu2⟩ := ic3.at2 (j := k') (by have := HLM.out; omega)
        have hcE2 : nthL lc k' = classS l ((k : Int) - 1) := by
          rw [HLC.out, nthL_classesS (by rw [HM.out]; omega)]
          congr 1; omega
        rw [hcE2] at iu2
        obtain ⟨c2, hcc2⟩ : ∃ c2, c2 = classS l ((k : Int) - 1) := ⟨_, rfl⟩
        rw [← hcc2] at iu2
        obtain ⟨b2, cb2, rfl, hbd2, _, hbm2, hbc2, hbf2⟩ := iu2
        have hixb2 := idx_one Try.underlying22 hi hz1 hbd2
        have hpos2 : 0 < c2.length := by rw [hcc2]; exact classS_ne hg (by omega) (by rw [HM.out]; omega)
        have hfirst : nth c2 0 < nth c 0 := by rw [hcc2, HCC.out]; exact classS_first hg (by omega) (by rw [HM.out]; omega)
        have q1 : ∀ W, (Instr.indexAt 32 (.slice ac m cc) (.int .i64 (IntKind.i64.wrap ((k : Int) - 1)))).run Try.prog W = .ok (.pointer (some (adr ac k'))) W := by
          rw [IntWalk.i64_in _ (by omega), show (k : Int) - 1 = (k' : Int) by omega]
          exact hixc k' (by omega)
        have pk2 : ∀ W, (Instr.indexAt 22 (.slice b2 c2.length cb2) (.int .i64 0)).run Try.prog W = .ok (.pointer (some (adr b2 0))) W := hixb2 0 hpos2
        have pk3 := cells_at hbd2 hb hbc2 0 hpos2
        have hu2' : wi.cell? (adr ac k') = some (.slice b2 c2.length cb2) := hu2 _ hb
        have hge : decide (nth c 0 ≤ nth c2 0) = false := by simp; omega
        clear hcc2 hcE2 hfirst hk0
        have hwk := Lib.hid (IntWalk.i64_in ((k : Int) - 1) (by omega))
        clear hk'
        go_quiet ((go_at_call 36; exact quiet_calls (HSO.out _)))
        rw [hwk.out]
        go_wp2
        go_loopw [93] (fun i wr => ∃ j : Nat, j ≤ c.length ∧ i = .int .i64 j ∧ Below w3.heap.size w3 wr ∧ Row wr w3.heap.size 4 (seenRow (fun p => decide (nth l p < k) || (decide (nth l p = k) && decide ((p : Int) ∈ c.take j))) l.length)) (fun i _ => c.length - (intOf i).toNat)
        case atStart =>
          refine ⟨0, by omega, rfl, hb.trans (drewN_below _ _ _), ?_⟩
          have := hR.agree (drewN_agree (fun _ => True) _ nq) trivial
          rw [seenRow_congr (g := fun p => decide (nth l p < k)) (fun p _ => by simp)]
          exact this
        case round =>
          obtain ⟨j, hj, rfl, hb5, hR5⟩ := hrel
          by_cases hjl : j < c.length
          · obtain ⟨p, hp, hpk, hcp⟩ := HME.out j hjl
            have q := hixb j hjl
            have pj : wr.cell? (adr b j) = some (.int .i64 (p : Int)) := by rw [HBC.out wr hb5 j hjl, hcp]
            have qa := hix p hp
            have pa : wr.cell? (adr a p) = some (.int .i64 (k : Int)) := by rw [HHA.out wr hb5 p hp, hpk]
            have hs : (decide (nth l p < k) || (decide (nth l p = k) && decide ((p : Int) ∈ c.take j))) = false := by
              have := HFR.out j hjl
              rw [hcp] at this
              rw [hpk]
              simp [this]
            have ps : wr.cell? ⟨w3.heap.size, p, none⟩ = some (.bool false) := by
              have := hR5.cell (seenRow_get hp)
              rw [hs] at this
              exact this
            have hfz := hR5.free p
            have HHP := Lib.hid hpk
            have HCP := Lib.hid hcp
            have HT := Lib.hid (take_nth hjl)
            have hknk : ((k : Int) != (k : Int)) = false := by simp
            clear hpk hcp hs
            go_wp2
            go_roundw
            case rel =>
              refine ⟨j + 1, by omega, by go_num, hb5.setCell (p := ⟨w3.heap.size, p, none⟩) (Nat.le_refl _) _, ?_⟩
              have := hR5.set p (.bool true)
              rw [seenRow_set hp] at this
              rw [seenRow_congr (fun i _ => ?_)]
              · exact this
              · rw [HT.out, HCP.out]
                by_cases e : i = p
                · subst e; simp [HHP.out]
                · have : ¬ (i : Int) = (p : Int) := by omega
                  simp [e, this]
            case measure => simp [intOf]; omega
          · have hj' : j = c.length := by omega
            subst hj'
            go_wp2
            go_roundw
            case rel =>
              refine ⟨k + 1, by omega, by go_num, hb5, ?_⟩
              rw [seenRow_congr (fun i hi => ?_)]
              · exact hR5
              · rw [List.take_length, HCC.out]
                by_cases e1 : nth l i < k
                · have : nth l i < (k : Int) + 1 := by omega
                  simp [e1, this]
                · by_cases e2 : nth l i = k
                  · have e3 : (i : Int) ∈ classS l (k : Int) := mem_classS.2 ⟨i, hi, e2, rfl⟩
                    have : (k : Int) < (k : Int) + 1 := by omega
                    simp [e2, e3, this]
                  · have : ¬ nth l i < (k : Int) + 1 := by omega
                    simp [e1, e2, this]
            case measure => simp [intOf]; omega
    · have hk' : k = m := by omega
      have hall : Row wi w3.heap.size 4 (List.replicate l.length (.bool true)) := by
        rw [← seenRow_all (f := fun i => decide (nth l i < k)) (fun i hi => by have := label_lt hi; rw [HM.out] at this; simp; omega)]
        exact hR
      have hswi := ext_trans e3 hb
      have hsz5 := hswi.size
      have HGX := Lib.hid (fun j (hj : j < l.length) => (hg.2 j hj).1)
      have HLB := Lib.hid (fun j (hj : j < l.length) => label_lt hj)
      have hmz : numS l ≤ 30 := by have := numS_le l hg.2 l.length (Nat.le_refl _); rw [List.take_length] at this; omega
      have hlw : ∀ x ∈ (l.map fun x => y - 2 * x), WF x := by
        intro x hx
        obtain ⟨z, hz, rfl⟩ := List.mem_map.1 hx
        obtain ⟨j, hj, rfl⟩ := List.getElem_of_mem hz
        have h1 := (hg.2 j hj).1
        have h2 := label_lt hj
        rw [nth_eq hj] at h1 h2
        exact WF.small (by omega)
      have HLW := Lib.hid hlw
      clear hlw hR hk'
      go_wp2
      go_loopw [14, 126] (fun v i wr => ∃ j : Nat, j ≤ l.length ∧ i = .int .i64 j ∧ Below wi.heap.size wi wr ∧ wr.ownsRow wi.heap.size 3 1 v j (((l.take j).map fun x => y - 2 * x).map (Value.int .i64))) (fun _ i _ => l.length - (intOf i).toNat)
      case atStart => exact ⟨0, by omega, rfl, .refl _ _, World.ownsRow_nil _ _ _ _⟩
      case round =>
        obtain ⟨j, hj, rfl, hb5, ho⟩ := hrel
        have hB5 := hb5.size
        by_cases hjl : j < l.length
        · have q := hix j hjl
          have pj := cells_at ha (ext_trans hswi hb5) hc j hjl
          have h1 := HGX.out j hjl
          have h2 := HLB.out j hjl
          have HT := Lib.hid (take_nth hjl)
          go_wp2_with (at_builtin; refine wpList_push rfl _ _ 22 rfl 3 _ 8 Try.underlying22 info3 rfl wi.heap.size _ _ _ rfl ho (.int .i64 (y - 2 * nth l j)) rfl rfl (by omega) (by omega) (by omega) ?_; intro g' c' w6 hown6 hbel6 _ _)
          go_roundw
          case rel =>
            refine ⟨j + 1, by omega, by go_num, hb5.trans hbel6, ?_⟩
            rw [HT.out]
            simpa using hown6
          case measure => simp [intOf]; omega
        · have hj' : j = l.length := by omega
          subst hj'
          have hlw := HLW.out
          rw [List.take_length] at ho
          have i5 : Ints (fun b => wi.heap.size ≤ b) wr _ (l.map fun x => y - 2 * x) := Ints.of_own ho hlw
          have e5 := ext_trans hswi hb5
          have r5 := hall.ext hb5
          clear ho hlw
          have oA : ofS l = (l, 0) := by rw [ofS_small (by omega), (labs_good hg).1]
          have oB : ofS (l.map fun x => y - 2 * x) = (l, 0) := by rw [ofS_small (by simp; omega), labs_names hg]
          have HOA := Lib.hid oA
          have HOB := Lib.hid oB
          clear oA oB
          go_wp2_with fail
          have c6 := of_calls (h.ext e5)
          rw [HOA.out] at c6
          refine c6.mono ?_
          rintro _ w6 ⟨_, rfl, hb6, v6, rfl, i6⟩
          clear c6
          have e6 := ext_trans e5 hb6
          have r6 := r5.ext hb6
          go_wp2_with fail
          have c7 := of_calls (i5.ext hb6)
          rw [HOB.out] at c7
          refine c7.mono ?_
          rintro _ w7 ⟨_, rfl, hb7, v7, rfl, i7⟩
          clear c7
          have e7 := ext_trans e6 hb7
          have r7 := r6.ext hb7
          go_wp2_with fail
          refine (contains_all r7 (by omega)).mono ?_
          rintro _ w8 ⟨_, rfl, hb8, rfl⟩
          have e8 := ext_trans e7 hb8
          go_wp2_with fail
          refine (equal_calls (i6.ext (ext_trans hb7 hb8)) (h.ext e8)).mono ?_
          rintro _ w9 ⟨_, rfl, hb9, rfl⟩
          have e9 := ext_trans e8 hb9
          rw [decide_eq_true (rfl : l = l)]
          go_wp2_with fail
          refine (equal_calls (i7.ext (ext_trans hb8 hb9)) (h.ext e9)).mono ?_
          rintro _ w10 ⟨_, rfl, hb10, rfl⟩
          have e10 := ext_trans e9 hb10
          rw [decide_eq_true (rfl : l = l)]
          go_wp2_with fail
          refine (awake_calls _).mono ?_
          rintro _ w11 ⟨_, rfl, hb11, rfl⟩
          have e11 := ext_trans e10 hb11
          go_wp2
          go_ret
          exact .mk e11 rfl
theorem good_one {l : List Int} (h : (![l].any (goodBad (nthL [l] 0).length)) = true) : Good l ∧ l.length ≤ 30 := by
  have := good_true h l (by simp)
  exact ⟨checkS_good.1 this.2.1, this.1⟩

set_option maxRecDepth 100000 in
set_option maxHeartbeats 2000000 in
theorem walkPartitionCovers {Sa : Nat → Prop} {w : World} {va : Value} {l : List Int} {y : Int} (h : Ints Sa w va l) (wf : WF y) :
    Calls Try.prog 10 #[va, .int .i64 y] w (Post w fun _ r => r = .bool true) := by
  cases fb : (![l].any (goodBad (nthL [l] 0).length)) with
  | true =>
    by_cases hy : -1000 ≤ y ∧ y ≤ 1000
    · exact coversRest h y hy (good_one fb).1 (good_one fb).2 fb
    · have ka0 := h
      obtain ⟨aa, capa, rfl, _⟩ := ka0
      have Hfb := Lib.hid fb
      clear fb
      go_enter Try.func10, Try.ntmps10
      go_wp2_with fail
      have L := lit_lists w _ rfl [.slice aa l.length capa] [l] 22 ⟨h.all, trivial⟩ (by simp)
      have ex1 := ext_alloc w (.cells #[.slice aa l.length capa] 22)
      refine (good_calls L (by simp)).mono ?_
      rintro _ w1 ⟨_, rfl, hb1, rfl⟩
      have ex2 := ext_trans ex1 hb1
      clear L
      rw [Hfb.out]
      by_cases h1 : y < -1000
      · have d1 : decide (y < -1000) = true := by simpa using h1
        go_wp2_with fail
        refine (awake_calls _).mono ?_
        rintro _ w2 ⟨_, rfl, hb2, rfl⟩
        have ex3 := ext_trans ex2 hb2
        go_wp2_with fail
        go_ret
        exact .mk ex3 rfl
      · have h2 : 1000 < y := by omega
        have d1 : decide (y < -1000) = false := by simpa using h1
        have d2 : decide (1000 < y) = true := by simpa using h2
        go_wp2_with fail
        refine (awake_calls _).mono ?_
        rintro _ w2 ⟨_, rfl, hb2, rfl⟩
        have ex3 := ext_trans ex2 hb2
        go_wp2_with fail
        go_ret
        exact .mk ex3 rfl
  | false =>
    have ka0 := h
    obtain ⟨aa, capa, rfl, _⟩ := ka0
    have Hfb := Lib.hid fb
    clear fb
    go_enter Try.func10, Try.ntmps10
    go_wp2_with fail
    have L := lit_lists w _ rfl [.slice aa l.length capa] [l] 22 ⟨h.all, trivial⟩ (by simp)
    have ex1 := ext_alloc w (.cells #[.slice aa l.length capa] 22)
    refine (good_calls L (by simp)).mono ?_
    rintro _ w1 ⟨_, rfl, hb1, rfl⟩
    have ex2 := ext_trans ex1 hb1
    clear L
    rw [Hfb.out]
    go_wp2_with fail
    refine (awake_calls _).mono ?_
    rintro _ w2 ⟨_, rfl, hb2, rfl⟩
    have ex3 := ext_trans ex2 hb2
    go_wp2_with fail
    go_ret
    exact .mk ex3 rfl
end Go.Proofs.Ytnmbiibchajehaa
