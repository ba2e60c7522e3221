/- The reference's transpose. -/
import Derived.Test.YtijmjliijjkcbaaMxApply2
namespace Go.Proofs.Ytijmjliijjkcbaa
set_option linter.unusedVariables false
open Go.RowKit
attribute [local go_sem ↓] Go.wp_at_zero Go.wp_at_succ

/-- What a call returns: a matrix in new blocks. -/
def RetX (base : Nat) (x : Mx) (w' : World) (r : Value) : Prop := MatV (fun b => base ≤ b) w' r x

set_option maxRecDepth 100000 in
set_option maxHeartbeats 4000000 in
theorem refTurned_calls {S : Nat → Prop} {w : World} {va : Value} {m : Mx} (ha : MatV S w va m) (ok : MOk m) :
    Calls Try.prog 60 #[va] w (Post w (RetX w.heap.size (turned m))) := by
  obtain ⟨cols, ll⟩ := m
  obtain ⟨ra, rfl, la⟩ := ha
  obtain ⟨aa, acap, rfl, aad, al1, alm⟩ := la.form
  dsimp only at la al1 aad ⊢
  unfold maxLen at alm
  have hls : ll.length ≤ 4096 := ok.r1
  have hc0 : 0 ≤ cols := ok.c0
  have hc1 : cols ≤ 4096 := ok.c1
  obtain ⟨n, hn⟩ : ∃ n : Nat, cols = (n : Int) := ⟨cols.toNat, by omega⟩
  subst hn
  obtain ⟨i0, hi, hz0, hz1, hz2⟩ := info_parts info_ints
  have HQA := Lib.hid (idx_one Try.underlying22 hi hz1 aad)
  have HTU : Hid (turned ⟨(n : Int), ll⟩ = ⟨ll.length, turnedRows n ll⟩) := Lib.hid (by unfold turned; simp)
  have ex : Below w.heap.size w (((w.alloc (.cells #[.int .i64 n, .slice aa ll.length acap] 24)).alloc (.cells #[.int .i64 0, .slice none 0 0] 24)).alloc (.cells #[.int .i64 ll.length, .slice none 0 0] 24)) := ext_alloc' (ext_alloc' (ext_alloc w _) _) _
  have r0 := ((row_new w [.int .i64 n, .slice aa ll.length acap] 24).alloc (.cells #[.int .i64 0, .slice none 0 0] 24)).alloc (.cells #[.int .i64 ll.length, .slice none 0 0] 24)
  have r1 := (row_new (w.alloc (.cells #[.int .i64 n, .slice aa ll.length acap] 24)) [.int .i64 0, .slice none 0 0] 24).alloc (.cells #[.int .i64 ll.length, .slice none 0 0] 24)
  have r2 := row_new ((w.alloc (.cells #[.int .i64 n, .slice aa ll.length acap] 24)).alloc (.cells #[.int .i64 0, .slice none 0 0] 24)) [.int .i64 ll.length, .slice none 0 0] 24
  simp only [World.size_alloc] at r1 r2
  have hzz : w.heap.size + 1 + 1 + 1 ≤ (((w.alloc (.cells #[.int .i64 n, .slice aa ll.length acap] 24)).alloc (.cells #[.int .i64 0, .slice none 0 0] 24)).alloc (.cells #[.int .i64 ll.length, .slice none 0 0] 24)).heap.size := by simp
  clear hi hz0 hz1 hz2
  go_enter Try.func60, Try.ntmps60
  go_wp2
  go_loopw [4, 5, 6] (fun ic _ _ wr => ∃ (k : Nat) (rv : Value) (vs : List Value), k ≤ n ∧ ic = .int .i64 k ∧ Below w.heap.size w wr ∧ w.heap.size + 1 + 1 + 1 ≤ wr.heap.size ∧ Row wr w.heap.size 24 [.int .i64 n, .slice aa ll.length acap] ∧ Row wr (w.heap.size + 1) 24 [.int .i64 0, .slice none 0 0] ∧
      Row wr (w.heap.size + 1 + 1) 24 [.int .i64 ll.length, rv] ∧ OwnList 38 (w.heap.size + 1 + 1 + 1) wr rv vs ((turnedRows n ll).take k)) (fun ic _ _ _ => n - (intOf ic).toNat)
  case atStart => exact ⟨0, _, _, Nat.zero_le _, rfl, ex, hzz, r0, r1, r2, .nil _ _ _⟩
  case round =>
    obtain ⟨c, rv, vs, hc, rfl, hb, hzr, R0, R1, R2, hO⟩ := hrel
    obtain ⟨wo, hwo⟩ : ∃ wo : World, wo = wr := ⟨_, rfl⟩
    rw [← hwo] at hb hzr R0 R1 R2 hO ⊢
    clear hwo
    obtain ⟨q00, q01⟩ := R0.two
    obtain ⟨q20, q21⟩ := R2.two
    by_cases hlt : c < n
    · have hO' := Lib.hid hO
      clear hO
      go_wp2
      go_loopw [5, 6] (fun vo i wi => ∃ k : Nat, k ≤ ll.length ∧ i = .int .i64 k ∧ Below wo.heap.size wo wi ∧ wi.ownsRow wo.heap.size 3 1 vo (colTo ll k (c : Nat)).length ((colTo ll k (c : Nat)).map (Value.int .i64))) (fun _ i _ => ll.length - (intOf i).toNat)
      case atStart => exact ⟨0, Nat.zero_le _, rfl, .refl _ _, World.ownsRow_nil _ _ _ _⟩
      case round =>
        obtain ⟨k, hk, rfl, hbi, ho⟩ := hrel
        have R0i := R0.ext hbi
        obtain ⟨p00, p01⟩ := R0i.two
        have hbw := ext_trans hb hbi
        by_cases hlk : k < ll.length
        · have q := HQA.out k hlk
          obtain ⟨u, cu, iu⟩ := la.at hbw hlk
          have HH := Lib.hid (refHas_quiet iu (c : Int))
          have HT := Lib.hid (colTo_succ ll k (c : Int))
          have hnl := colTo_length ll k (c : Int)
          obtain ⟨acc, hacc⟩ : ∃ acc, acc = colTo ll k (c : Int) := ⟨_, rfl⟩
          rw [← hacc] at ho HT hnl
          clear hacc
          go_wp2_with fail
          refine (HH.out.mono fun _ _ h => h.post).mono ?_
          rintro _ w3 ⟨_, rfl, hb3, rfl⟩
          have hb3' := ext_trans hbi hb3
          have ho3 := owns_ext ho hb3
          have hz3 := hb3'.size
          clear ho
          cases hod : memB (nthL ll k) (c : Int) with
          | false =>
            rw [hod, if_neg (by simp), List.append_nil] at HT
            rw [← HT.out] at ho3
            clear hod
            go_wp2
            go_roundw
            case rel => exact ⟨k + 1, by omega, by go_num, hb3', ho3⟩
            case measure => simp [intOf]; omega
          | true =>
            rw [hod, if_pos rfl] at HT
            clear hod
            have HO3 := Lib.hid ho3
            clear ho3
            go_wp2_with (at_builtin; refine wpList_push rfl _ _ 38 rfl 3 _ 8 Try.underlying38 info_int rfl wo.heap.size _ _ _ rfl HO3.out (.int .i64 (k : Int)) rfl rfl (by omega) (by omega) hz3 ?_; intro g' c' w5 hown5 hbel5 _ _)
            have hb5 := hb3'.trans hbel5
            have hT2 := Lib.hid (show w5.ownsRow wo.heap.size 3 1 (.slice (some ⟨g', 0, none⟩) (acc.length + 1) c') (colTo ll (k + 1) (c : Int)).length ((colTo ll (k + 1) (c : Int)).map (Value.int .i64)) from by rw [HT.out]; simpa using hown5)
            clear hown5 hbel5
            go_wp2
            go_roundw
            case rel => exact ⟨k + 1, by omega, by go_num, hb5, hT2.out⟩
            case measure => simp [intOf]; omega
        · obtain rfl : k = ll.length := by omega
          have hI := Ints.of_own ho (wf_col ll _ (by omega))
          obtain ⟨a5, c5, rfl, _⟩ := hI.form
          have HI := Lib.hid hI
          have HT := Lib.hid (turnedRows_take (R := ll) hlt)
          obtain ⟨x, hx⟩ : ∃ x, x = colTo ll ll.length (c : Int) := ⟨_, rfl⟩
          rw [← hx] at HI ⊢
          have HX := Lib.hid hx
          obtain ⟨tl, htl⟩ : ∃ tl, tl = (turnedRows n ll).take c := ⟨_, rfl⟩
          rw [← htl] at hO' HT
          have htn : tl.length ≤ 4096 := by rw [htl, List.length_take]; omega
          have R2i := R2.ext hbi
          have ORW := Lib.hid (hO'.out.ext hbi).row
          have hzi := hbi.size
          have HNE := Lib.hid (fun (k : Nat) (hk : rv.ownBlock = some k) => (hO'.out.row.lt k hk))
          clear hx htl ho hI
          obtain ⟨p20, p21⟩ := R2i.two
          go_wp2_with (at_builtin; refine wpList_push rfl _ _ 22 rfl 38 _ 24 Try.underlying22 info_ints rfl (w.heap.size + 1 + 1 + 1) _ _ _ rfl ORW.out (.slice a5 x.length c5) rfl rfl (by omega) (by omega) (by omega) ?_; intro g6 cp6 w6 hown6 hbel6 hag6 hat6; have R6 := R2i.agree (S := fun b => b = w.heap.size + 1 + 1) (hag6 _ fun k hk e => by have := (HNE.out k hk).1; omega) rfl; have f6 := R6.free 1; have c6 := R6.cell (j := 1) rfl)
          have HP := out_push0 (T := 24) (OB := w.heap.size + 1 + 1) (B := w.heap.size + 1 + 1 + 1) (by omega) hzr R2 hO'.out hbi HI.out hown6 hag6 hbel6 hat6
          obtain ⟨P3, PO, PA, PB⟩ := HP
          have PB0 := PB w.heap.size (by omega)
          have P0 := R0.agreeN PA (by omega) (by omega)
          have P1 := R1.agreeN PA (by omega) (by omega)
          have hsz := PA.size
          have PO2 := Lib.hid PO
          rw [show tl ++ [x] = (turnedRows n ll).take (c + 1) from by rw [HT.out, HX.out]; rfl] at PO2
          clear PA PB PO hag6 hown6 hbel6
          go_wp2
          go_roundw
          case rel => exact ⟨c + 1, _, _, by omega, by go_num, hb.trans PB0, by omega, P0, P1, P3, PO2.out⟩
          case measure => simp [intOf]; omega
    · have HE := Lib.hid (show (turnedRows n ll).take c = turnedRows n ll from List.take_of_length_le (by rw [turnedRows_length]; omega))
      have hL := hO.lists
      rw [HE.out] at hL
      obtain ⟨a9, c9, rfl, _⟩ := hL.form
      obtain ⟨q10, q11⟩ := R1.two
      have f20 := R1.free 0
      have f21 := R1.free 1
      go_wp2
      refine bodyPost_ret (v := .agg #[.int .i64 ll.length, .slice a9 (turnedRows n ll).length c9]) (by simp [results, Try.results60, go_sem, q10, q11, f20, f21]) rfl ?_
      refine .mk (set2_below _ _ hb (by omega)) ?_
      rw [HTU.out]
      exact ⟨_, rfl, (hL.agree (set2_agree _ _ (by omega))).mono fun b hb => by omega⟩

set_option maxRecDepth 100000 in
set_option maxHeartbeats 1000000 in
theorem refTranspose_calls {S : Nat → Prop} {w : World} {va : Value} {m : Mx} (ha : MatV S w va m) :
    Calls Try.prog 38 #[va] w (Post w (RetM w.heap.size (transS m))) := by
  obtain ⟨cols, ll⟩ := m
  obtain ⟨ra, rfl, la⟩ := ha
  obtain ⟨aa, acap, rfl, aad, al1, alm⟩ := la.form
  dsimp only at la al1 aad ⊢
  have ex : Below w.heap.size w ((w.alloc (.cells #[.int .i64 cols, .slice aa ll.length acap] 24)).alloc (.cells #[.int .i64 0, .slice none 0 0] 24)) := ext_alloc' (ext_alloc w _) _
  have r0 := (row_new w [.int .i64 cols, .slice aa ll.length acap] 24).alloc (.cells #[.int .i64 0, .slice none 0 0] 24)
  have r1 := row_new (w.alloc (.cells #[.int .i64 cols, .slice aa ll.length acap] 24)) [.int .i64 0, .slice none 0 0] 24
  simp only [World.size_alloc] at r1
  have KC := Lib.hid (refCheck_calls (v := .agg #[.int .i64 cols, .slice aa ll.length acap]) (m := ⟨cols, ll⟩) ⟨_, rfl, la.ext ex⟩)
  go_enter Try.func38, Try.ntmps38
  go_wp2_with fail
  refine KC.out.mono ?_
  rintro _ w1 ⟨_, rfl, hb1, rfl⟩
  have hx1 := ext_trans ex hb1
  have R0 := r0.ext hb1
  have R1 := r1.ext hb1
  clear KC r0 r1 ex
  obtain ⟨q10, q11⟩ := R1.two
  have f10 := R1.free 0
  have f11 := R1.free 1
  have hz1w := R1.lt
  by_cases h1 : ¬ checkM ⟨cols, ll⟩ = 0
  · have e1 : (checkM ⟨cols, ll⟩ != 0) = true := by simp [h1]
    have R := Lib.hid (transS_err h1)
    clear h1
    go_wp2
    refine bodyPost_ret (v := .tuple #[.agg #[.int .i64 0, .slice none 0 0], .int .i64 (checkM ⟨cols, ll⟩)]) (by simp [results, Try.results38, go_sem, q10, q11, f10, f11]) rfl ?_
    exact .mk (set2_below _ _ hx1 (by omega)) (.none R.out)
  have h1 := Classical.not_not.1 h1
  have e1 : (checkM ⟨cols, ll⟩ != 0) = false := by simp [h1]
  have R := Lib.hid (transS_ok h1)
  obtain ⟨q0, q1⟩ := R0.two
  have KT := Lib.hid (refTurned_calls (va := .agg #[.int .i64 cols, .slice aa ll.length acap]) (m := ⟨cols, ll⟩) (w := w1) ⟨_, rfl, la.ext hx1⟩ (checkM_zero.1 h1))
  clear h1
  go_wp2_with fail
  refine KT.out.mono ?_
  rintro _ w2 ⟨v2, rfl, hb2, rv, rfl, hl2⟩
  obtain ⟨a2, c2, rfl, _⟩ := hl2.form
  have R1 := R1.ext hb2
  obtain ⟨q10, q11⟩ := R1.two
  have f10 := R1.free 0
  have f11 := R1.free 1
  have hbs := hx1.size
  go_wp2
  refine bodyPost_ret (v := .tuple #[.agg #[.int .i64 (turned ⟨cols, ll⟩).cols, .slice a2 (turned ⟨cols, ll⟩).rows.length c2], .int .i64 0]) (by simp [results, Try.results38, go_sem, q10, q11, f10, f11]) rfl ?_
  exact .mk (set2_below _ _ (ext_trans hx1 hb2) (by omega)) (.mk R.out ((hl2.agree (set2_agree _ _ (by omega))).mono fun b hb => by omega))
end Go.Proofs.Ytijmjliijjkcbaa
