/- The contracts of caseSets, All, slices.Grow and slices.Concat. -/
import Derived.Test.YtmlgbaogkbfklaaDoorGrY
import Derived.Lib.AppendZeros
namespace Go.Proofs.YtmlgbaogkbfklaaDoor
set_option linter.unusedVariables false
open Go.RowKit

theorem owns_base {w : World} {base base' : Nat} {e : TypeId} {size : Nat} {v : Value} {n : Nat} {xs : List Value} (h : w.ownsRow base e size v n xs) (hb : base' ≤ base) : w.ownsRow base' e size v n xs := by
  refine ⟨h.1, ?_⟩
  rcases h.2 with hn | ⟨g, cap, cur, rfl, hg, rest⟩
  · exact .inl hn
  · exact .inr ⟨g, cap, cur, rfl, Nat.le_trans hb hg, rest⟩
/-- A row of the call's own that reads as a list. -/
def OwnI (base : Nat) (w : World) (v : Value) (l : List Int) : Prop := w.ownsRow base 3 1 v l.length (l.map (Value.int .i64))
theorem OwnI.ints {base : Nat} {w : World} {v : Value} {l : List Int} (h : OwnI base w v l) (hf : ∀ x ∈ l, WF x) : Ints (fun b => base ≤ b) w v l := Ints.of_own h hf
theorem OwnI.ext {base : Nat} {w w' : World} {v : Value} {l : List Int} (h : OwnI base w v l) (hb : Below w.heap.size w w') : OwnI base w' v l := owns_ext h hb
def castL (l : List Nat) : List Int := l.map (Nat.cast : Nat → Int)
@[simp] theorem castL_len (l : List Nat) : (castL l).length = l.length := by simp [castL]
theorem castL_wf {l : List Nat} (h : ∀ x ∈ l, x < 32) : ∀ x ∈ castL l, WF x := by
  intro x hx
  obtain ⟨y, hy, rfl⟩ := List.mem_map.1 hx
  have := h y hy
  exact WF.small (by omega)
theorem castL_nth {l : List Nat} {k : Nat} (h : k < l.length) : nth (castL l) k = ((l.getD k 0 : Nat) : Int) := by
  rw [nth_eq (by simpa using h)]; simp [castL, h]
theorem sets_snoc {l : List Int} {k : Nat} {d : List Nat} (hk : k < (classesS l).length) (hd : nthL (classesS l) k = d.map (Nat.cast : Nat → Int)) :
    castL ((setsN l).take (k + 1)) = castL ((setsN l).take k) ++ [(setN d : Int)] := by
  have h1 : k < (setsN l).length := by unfold setsN; simpa using hk
  rw [List.take_succ_eq_append_getElem h1]
  have e := List.getElem?_eq_getElem h1
  have e2 : (setsN l)[k]? = some (setN d) := by
    unfold setsN
    rw [List.getElem?_map, List.getElem?_eq_getElem hk]
    simp only [Option.map_some]
    rw [← nthL_eq hk, hd, toNat_casts]
  rw [e2] at e
  injection e with e
  rw [← e]; simp [castL]
theorem tuple2_eq {a b : Int} (h : a = b) : Value.tuple #[.int .i64 a, .int .i64 0] = .tuple #[.int .i64 b, .int .i64 0] := by rw [h]
theorem allI_calls (w : World) {n : Nat} (h1 : 1 ≤ n) (h5 : n ≤ 5) : Calls Tryd.prog 19 #[.int .i64 n] w (Post w fun _ r => r = .tuple #[.int .i64 ((2 ^ n - 1 : Nat) : Int), .int .i64 0]) := by
  have K := Lib.hid fun W => ((pprocsN_quiet W h1 h5).mono fun _ _ h => h.take)
  have HP : Hid (wrap64 (wrap64 ((2 : Int) ^ n) - 1) = ((2 ^ n - 1 : Nat) : Int)) := Lib.hid (by
    have : n = 1 ∨ n = 2 ∨ n = 3 ∨ n = 4 ∨ n = 5 := by omega
    rcases this with rfl | rfl | rfl | rfl | rfl <;> decide +kernel)
  go_enter Tryd.func19, Tryd.ntmps19
  go_wp2_with fail
  refine (K.out _).mono ?_
  rintro _ w1 ⟨_, rfl, hq1, rfl⟩
  go_wp2
  go_ret2
  exact .mk hq1.ext (tuple2_eq HP.out)

set_option maxRecDepth 100000 in
set_option maxHeartbeats 2000000 in
theorem caseSets_calls {S : Nat → Prop} {w : World} {v : Value} {l : List Int} (hv : Ints S w v l) (hg : Good l) (h1 : 1 ≤ l.length) (h5 : l.length ≤ 5) :
    Calls Tryd.prog 18 #[.int .i64 l.length, v] w (Post w fun w' r => ∃ u, r = .tuple #[u, .bool true] ∧ OwnI w.heap.size w' u (castL (setsN l))) := by
  have hc0 : checkS l = 0 := checkS_good.2 hg
  have KC := Lib.hid (classes_calls hv)
  have hcr : classesR l = (classesS l, 0) := by simp [classesR, hc0]
  rw [hcr] at KC
  obtain ⟨CL, hCL⟩ : ∃ CL, CL = classesS l := ⟨_, rfl⟩
  have HOK : Hid (∀ k, k < CL.length → ∃ d : List Nat, nthL CL k = d.map (Nat.cast : Nat → Int) ∧ (∀ p ∈ d, p < l.length) ∧ d.Nodup) := Lib.hid fun k hk => by
    subst hCL; exact class_ok (nthL_mem hk)
  have HSN : Hid (∀ k (d : List Nat), k < CL.length → nthL CL k = d.map (Nat.cast : Nat → Int) → castL ((setsN l).take (k + 1)) = castL ((setsN l).take k) ++ [(setN d : Int)]) := Lib.hid fun k d hk hd => by
    subst hCL; exact sets_snoc hk hd
  have HLN : Hid (CL.length = (setsN l).length) := Lib.hid (by subst hCL; simp [setsN])
  have hm6 : CL.length ≤ 65536 := by
    rw [hCL, length_classesS]
    have := numS_le l hg.2 l.length (Nat.le_refl _)
    rw [List.take_length] at this
    omega
  rw [← hCL] at KC
  obtain ⟨i0, hi, hz0, hz1, hz2⟩ := info_parts info_slice
  obtain ⟨a, cap, rfl, _⟩ := hv.form
  clear hcr hc0 hCL hv hg
  go_enter Tryd.func18, Tryd.ntmps18
  go_wp2_with fail
  refine KC.out.mono ?_
  rintro _ w1 ⟨_, rfl, hb1, v1, rfl, hL⟩
  obtain ⟨ac, cc, rfl, had, _, _⟩ := hL.form
  obtain ⟨_, _, e0, _, _, _, hcell⟩ := hL
  simp only [Value.slice.injEq, true_and] at e0
  obtain ⟨rfl, rfl⟩ := e0
  have HQ := Lib.hid (idx_one Tryd.underlying60 hi hz1 had)
  have HC := Lib.hid hcell
  have hs1 := hb1.size
  clear hcell KC hi hz0 hz1 hz2
  go_wp2
  go_loopw [8, 22] (fun o i wr => ∃ k : Nat, k ≤ CL.length ∧ i = .int .i64 k ∧ Below w1.heap.size w1 wr ∧ OwnI w1.heap.size wr o (castL ((setsN l).take k))) (fun _ i _ => CL.length - (intOf i).toNat)
  case atStart => exact ⟨0, Nat.zero_le _, rfl, .refl _ _, World.ownsRow_nil _ _ _ _⟩
  case round =>
    obtain ⟨k, hk, rfl, hb, ho⟩ := hrel
    by_cases hlt : k < CL.length
    · have q := HQ.out k hlt
      obtain ⟨u, hu, hiu⟩ := HC.out k hlt
      have p := cell_ext hu hb
      have hiu := hiu.ext hb
      obtain ⟨d, hd, hdl, hdn⟩ := HOK.out k hlt
      have HS := Lib.hid (HSN.out k d hlt hd)
      rw [hd] at hiu
      have KO := Lib.hid (of_calls h1 h5 hiu hdl hdn)
      obtain ⟨D, hD⟩ : ∃ D, D = d.map (Nat.cast : Nat → Int) := ⟨_, rfl⟩
      rw [← hD] at hiu
      clear hD
      obtain ⟨ua, uc, rfl, _⟩ := hiu.form
      have HK : Hid ((castL ((setsN l).take k)).length = k) := Lib.hid (by have := HLN.out; simp; omega)
      clear hu hiu hd hdl hdn
      have hbs := hb.size
      go_wp2_with fail
      refine KO.out.mono ?_
      rintro _ w2 ⟨_, rfl, hb2, rfl⟩
      have ho2 := ho.ext hb2
      have hbs2 := hb2.size
      unfold OwnI at ho2
      go_wp2_with (at_builtin; refine wpList_push rfl (.tmp 34) (.tmp 36) 33 rfl 3 _ 8 Tryd.underlying33 info_int rfl w1.heap.size _ _ _ rfl ho2 (.int .i64 (setN d : Int)) rfl rfl (by rw [HK.out]; omega) (by rw [HK.out]; omega) (by omega) ?_; intro g3 c3 w3 hown3 hbel3 hag3 hblk3)
      go_roundw
      case rel =>
        refine ⟨k + 1, by omega, by go_num, (ext_trans hb hb2).trans hbel3, ?_⟩
        unfold OwnI
        rw [HS.out]
        simpa using hown3
      case measure => simp [intOf]; omega
    · obtain rfl : k = CL.length := by omega
      rw [List.take_of_length_le (by have := HLN.out; omega)] at ho
      have hfin := owns_base (show wr.ownsRow w1.heap.size 3 1 _ _ _ from ho) hs1
      clear ho
      go_wp2
      go_ret2
      exact .mk (ext_trans hb1 hb) ⟨_, rfl, hfin⟩

set_option maxHeartbeats 1000000 in
theorem grow_calls (w : World) {n : Nat} (h0 : 0 < n) (hn : n ≤ 100000) :
    Calls Tryd.prog 46 #[.slice none 0 0, .int .i64 n] w (Post w fun w' r => OwnI w.heap.size w' r []) := by
  obtain ⟨i0, hi, hz0, hz1, hz2⟩ := info_parts info_int
  have KZ := Lib.hid fun (W : World) (ty : TypeId) => Lib.run_append_nil_zeros (P := Tryd.prog) W 33 3 ty 3 i0 (.int .i64 0) .i64 .i64 Tryd.underlying33 Tryd.underlying3 hi hz0 n h0 (by rw [hz1]; omega) (by omega) (by rw [hz2]; omega)
  have HCG := Lib.hid fun (W : World) => And.intro (grownCap_ge W n 0 3) (grownCap_le_maxLen W n 0 3 (by unfold maxLen; omega))
  clear hi hz0 hz1 hz2
  obtain ⟨C, hC⟩ : ∃ C, C = grownCap w n 0 3 := ⟨_, rfl⟩
  have hC1 := (HCG.out w).1
  have hC2 := (HCG.out w).2
  have KZ1 := Lib.hid fun ty => KZ.out w ty
  rw [← hC] at KZ1 hC1 hC2
  unfold maxLen at hC2
  clear hC KZ HCG
  go_enter Tryd.func46, Tryd.ntmps46
  go_wp2_with (at_builtin; refine Lib.wpList_append_run _ rfl _ _ _ _ rfl _ _ rfl rfl _ _ (KZ1.out _) ?_)
  go_ret
  refine .mk (((Below.refl _ _).drew).alloc (Nat.le_refl _) _) ⟨rfl, .inr ⟨w.heap.size, C, _, rfl, Nat.le_refl _, heap_alloc_new w.drew _, Nat.zero_le _, by unfold maxLen; omega, ?_, by simp⟩⟩
  rw [Array.size_append, size_zeroCells, size_zeroCells]
  show n * 1 + (C - n) * 1 = C * 1
  omega

theorem flat_snoc {ll : List (List Int)} {k : Nat} (h : k < ll.length) : (ll.take (k + 1)).flatten = (ll.take k).flatten ++ nthL ll k := by rw [take_nthL h]; simp
theorem flat_le {ll : List (List Int)} (k : Nat) : (ll.take k).flatten.length ≤ ll.flatten.length := by
  conv => rhs; rw [← List.take_append_drop k ll]
  rw [List.flatten_append, List.length_append]; omega

set_option maxRecDepth 100000 in
set_option maxHeartbeats 2000000 in
theorem concat_calls {S : Nat → Prop} {w : World} {v : Value} {ll : List (List Int)} (h : Lists S w v ll) (h0 : 0 < ll.flatten.length) (hm : ll.flatten.length ≤ 100000) (hl : ll.length ≤ 100000) (hf : ∀ x ∈ ll.flatten, WF x) :
    Calls Tryd.prog 24 #[v] w (Post w fun w' r => OwnI w.heap.size w' r ll.flatten) := by
  obtain ⟨a, cap, rfl, had, _, _, hcell⟩ := h
  obtain ⟨i0, hi, hz0, hz1, hz2⟩ := info_parts info_slice
  have HQ := Lib.hid (idx_one Tryd.underlying60 hi hz1 had)
  have HC : Hid (∀ (k : Nat), k < ll.length → ∀ W, Below w.heap.size w W → ∃ ua uc, W.cell? (adr a k) = some (.slice ua (nthL ll k).length uc) ∧ Ints S W (.slice ua (nthL ll k).length uc) (nthL ll k)) := Lib.hid fun k hk W hW => by
    obtain ⟨u, hu, hiu⟩ := hcell k hk
    obtain ⟨ua, uc, rfl, _⟩ := hiu.form
    exact ⟨ua, uc, cell_ext hu hW, hiu.ext hW⟩
  have HFS := Lib.hid fun (k : Nat) (h : k < ll.length) => flat_snoc h
  obtain ⟨M, hM⟩ : ∃ M, M = ll.flatten.length := ⟨_, rfl⟩
  rw [← hM] at h0 hm
  have HFL : Hid (∀ k : Nat, (ll.take k).flatten.length ≤ M) := Lib.hid fun (k : Nat) => by rw [hM]; exact flat_le (ll := ll) k
  have HM2 : Hid ((ll.take ll.length).flatten.length = M) := Lib.hid (by rw [List.take_length, hM])
  have KG := Lib.hid fun W => grow_calls W h0 hm
  have HT : Hid ((ll.take ll.length).flatten = ll.flatten) := Lib.hid (by rw [List.take_length])
  clear hcell hi hz0 hz1 hz2 had hf hM
  go_enter Tryd.func24, Tryd.ntmps24
  go_wp2
  go_loop [3, 11] (fun s i => ∃ k : Nat, k ≤ ll.length ∧ i = .int .i64 k ∧ s = .int .i64 ((ll.take k).flatten.length : Nat)) (fun _ i => ll.length - (intOf i).toNat)
  case atStart => exact ⟨0, Nat.zero_le _, rfl, rfl⟩
  case round =>
    obtain ⟨k, hk, rfl, rfl⟩ := hrel
    by_cases hlt : k < ll.length
    · have q := HQ.out k hlt
      obtain ⟨ua, uc, hu, _⟩ := HC.out k hlt w (.refl _ _)
      obtain ⟨m, hmm⟩ : ∃ m, m = (ll.take k).flatten.length := ⟨_, rfl⟩
      obtain ⟨m2, hmm2⟩ : ∃ m, m = (nthL ll k).length := ⟨_, rfl⟩
      have h1 := HFL.out (k + 1)
      rw [HFS.out k hlt, List.length_append, ← hmm, ← hmm2] at h1
      have HM : Hid ((ll.take (k + 1)).flatten.length = m + m2) := Lib.hid (by rw [HFS.out k hlt, List.length_append, hmm, hmm2])
      rw [← hmm2] at hu
      rw [← hmm]
      have hneg : decide (((m : Int) + (m2 : Int)) < 0) = false := by simp; omega
      clear hmm hmm2
      go_wp2
      go_round
      case rel => exact ⟨k + 1, by omega, by go_num, by rw [HM.out]; go_num⟩
      case measure => simp [intOf]; omega
    · obtain rfl : k = ll.length := by omega
      rw [HM2.out]
      go_wp2_with fail
      refine (KG.out _).mono ?_
      rintro _ w1 ⟨v1, rfl, hb1, ho1⟩
      go_wp2
      go_loopw [6, 27] (fun o i wr => ∃ k : Nat, k ≤ ll.length ∧ i = .int .i64 k ∧ Below w.heap.size w wr ∧ OwnI w.heap.size wr o (ll.take k).flatten) (fun _ i _ => ll.length - (intOf i).toNat)
      case atStart => exact ⟨0, Nat.zero_le _, rfl, hb1, by simpa using ho1⟩
      case round =>
        obtain ⟨k, hk, rfl, hb, ho⟩ := hrel
        by_cases hlt : k < ll.length
        · have q := HQ.out k hlt
          obtain ⟨ua, uc, hu, hiu⟩ := HC.out k hlt wr hb
          have hul := HFL.out (k + 1)
          rw [HFS.out k hlt, List.length_append] at hul
          have HS := Lib.hid (HFS.out k hlt)
          have hbs := hb.size
          unfold OwnI at ho
          go_wp2_with (at_builtin; refine wpList_appendAll rfl (.tmp 31) (.tmp 32) 33 rfl 3 (.int .i64 0) 8 Tryd.underlying33 info_int rfl w.heap.size _ _ _ rfl ho S ua (nthL ll k).length uc ((nthL ll k).map (Value.int .i64)) rfl (ints_ad hiu) (by simp) (ints_cells hiu (.refl _ _)) (oneCell_ints _) (by omega) (by omega) hbs ?_; intro v' w' hown' hbel' hag' hblk')
          go_roundw
          case rel =>
            refine ⟨k + 1, by omega, by go_num, hb.trans hbel', ?_⟩
            unfold OwnI
            rw [HS.out]
            simpa using hown'
          case measure => simp [intOf]; omega
        · obtain rfl : k = ll.length := by omega
          rw [HT.out] at ho
          go_wp2
          go_ret
          exact .mk hb ho
end Go.Proofs.YtmlgbaogkbfklaaDoor
