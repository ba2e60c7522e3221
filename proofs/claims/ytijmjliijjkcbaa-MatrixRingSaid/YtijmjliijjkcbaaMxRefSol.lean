/- The reference's solution. -/
import Derived.Test.YtijmjliijjkcbaaMxLaw1
import Derived.Test.YtijmjliijjkcbaaMxDec
namespace Go.Proofs.Ytijmjliijjkcbaa
set_option linter.unusedVariables false
open Go.RowKit
attribute [local go_sem ↓] Go.wp_at_zero Go.wp_at_succ

def wideM (m : Mx) (b : List Int) : Mx := ⟨m.cols + 1, wideR m b⟩
theorem MOk.wide {m : Mx} (h : MOk m) (hc : m.cols ≤ 4000) (b : List Int) : MOk (wideM m b) := by
  have h0 := h.c0
  refine checkM_zero.1 (checkM_ok ⟨by show 0 ≤ m.cols + 1; omega, by show m.cols + 1 ≤ 4096; omega⟩ (by show (wideR m b).length ≤ 4096; rw [wideR_len]; exact h.r1) (fun r hr => h.wide_ord b r hr) fun r hr z hz => ?_)
  obtain ⟨j, hj, rfl⟩ := List.mem_map.1 hr
  have hg := h.gl1 (List.mem_range.1 hj)
  rcases (mem_tagL hg z).1 hz with h1 | ⟨rfl, _⟩
  · have := hg.r1 z h1
    show 0 ≤ z ∧ z < m.cols + 1
    omega
  · show 0 ≤ m.cols ∧ m.cols < m.cols + 1
    omega
/-- What the reference finds. -/
theorem wide_some {m : Mx} (h : MOk m) (hc : m.cols ≤ 4000) {b d : List Int} (hs : solD m b = some d) : leadsB (rowsE (wideM m b)) m.cols = true := by
  obtain ⟨h1, h2⟩ := solD_some hs
  exact leadsB_iff.2 (wide_odd h h1 h2 (rowsE_rref (h.wide hc b)) (rowsE_sp1 (h.wide hc b)))
theorem wide_tag {m : Mx} (h : MOk m) (hc : m.cols ≤ 4000) {b : List Int} (hs : solD m b = none) : rowsE (wideM m b) = tagE m b :=
  tagE_unique h (solD_none hs) (rowsE_rref (h.wide hc b)) (rowsE_sp1 (h.wide hc b)) (rowsE_sp2 (h.wide hc b))
theorem wide_none {m : Mx} (h : MOk m) (hc : m.cols ≤ 4000) {b : List Int} (hs : solD m b = none) : leadsB (rowsE (wideM m b)) m.cols = false := by
  rw [wide_tag h hc hs]
  exact leadsB_not.2 fun r hr => wide_even h r hr
def xTo (E : List (List Int)) (c : Int) (k : Nat) : List Int := ((E.take k).filter fun r => memB r c).map lead
theorem xTo_succ {E : List (List Int)} {k : Nat} (hk : k < E.length) (c : Int) : xTo E c (k + 1) = xTo E c k ++ (if memB (nthL E k) c = true then [lead (nthL E k)] else []) := by
  unfold xTo
  rw [take_nthL hk, List.filter_append, List.map_append, List.filter_cons]
  split <;> simp
theorem xTo_length (E : List (List Int)) (c : Int) (k : Nat) : (xTo E c k).length ≤ k := by
  unfold xTo
  rw [List.length_map]
  have := List.length_filter_le (fun r => memB r c) (E.take k)
  have := List.length_take_le k E
  omega
theorem xTo_all {m : Mx} (h : MOk m) (hc : m.cols ≤ 4000) {b : List Int} (hs : solD m b = none) : xTo (rowsE (wideM m b)) m.cols (rowsE (wideM m b)).length = solX m b := by
  unfold xTo
  rw [List.take_length, wide_tag h hc hs]
  exact solX_tag h b
theorem wideR_take {m : Mx} {b : List Int} {k : Nat} (hk : k < m.rows.length) : (wideR m b).take (k + 1) = (wideR m b).take k ++ [nthL m.rows k ++ (if memB b (k : Int) = true then [m.cols] else [])] := by
  rw [take_nthL (by rw [wideR_len]; exact hk), wideR_nth hk]
  unfold tagL
  have e2 : oddV [(k : Int)] b = memB b (k : Int) := by unfold oddV; rw [par_cons, par_nil, Bool.xor_false]
  dsimp only
  rw [e2]

/-- What a call returns: a solution, and whether there is one. -/
def RetSl (m : Mx) (b : List Int) (w' : World) (r : Value) : Prop := ∃ v, r = .tuple #[v, .bool (solD m b).isNone] ∧ Ints TT w' v (if (solD m b).isNone = true then solX m b else [])

set_option maxRecDepth 100000 in
set_option maxHeartbeats 4000000 in
theorem refSolution_calls {S S' : Nat → Prop} {w : World} {va vb : Value} {m : Mx} {b : List Int} (ha : MatV S w va m) (hbv : Ints S' w vb b) (ok : MOk m) (hcs : m.cols ≤ 4000) :
    Calls Try.prog 56 #[va, vb] w (Post w (RetSl m b)) := by
  obtain ⟨cols, ll⟩ := m
  obtain ⟨ra, rfl, la⟩ := ha
  obtain ⟨aa, acap, rfl, aad, al1, alm⟩ := la.form
  obtain ⟨ab, nb, rfl, _⟩ := hbv.form
  dsimp only at la al1 aad hcs ⊢
  have hc0 : 0 ≤ cols := ok.c0
  have hr1 : ll.length ≤ 4096 := ok.r1
  have OK := Lib.hid ok
  obtain ⟨i0, hi, hz0, hz1, hz2⟩ := info_parts info_ints
  have HQA := Lib.hid (idx_one Try.underlying22 hi hz1 aad)
  have HQZ := Lib.hid (fun (w : World) (a : Option Addr) (n cap : Nat) (h : Ad TT w a n cap) => idx_one Try.underlying22 hi hz1 h)
  clear hi hz0 hz1 hz2 ok
  have ex : Below w.heap.size w ((w.alloc (.cells #[.int .i64 cols, .slice aa ll.length acap] 24)).alloc (.cells #[.int .i64 (cols + 1), .slice none 0 0] 24)) := ext_alloc' (ext_alloc w _) _
  have r0 := (row_new w [.int .i64 cols, .slice aa ll.length acap] 24).alloc (.cells #[.int .i64 (cols + 1), .slice none 0 0] 24)
  have r1 := row_new (w.alloc (.cells #[.int .i64 cols, .slice aa ll.length acap] 24)) [.int .i64 (cols + 1), .slice none 0 0] 24
  simp only [World.size_alloc] at r1
  have hB0 : w.heap.size + 1 + 1 ≤ ((w.alloc (.cells #[.int .i64 cols, .slice aa ll.length acap] 24)).alloc (.cells #[.int .i64 (cols + 1), .slice none 0 0] 24)).heap.size := by simp
  go_enter Try.func56, Try.ntmps56
  go_wp2
  go_loopw [7, 8] (fun i _ wr => ∃ (k : Nat) (rv : Value) (vs : List Value), k ≤ ll.length ∧ i = .int .i64 k ∧ Below w.heap.size w wr ∧ w.heap.size + 1 + 1 ≤ wr.heap.size ∧ Row wr w.heap.size 24 [.int .i64 cols, .slice aa ll.length acap] ∧ Row wr (w.heap.size + 1) 24 [.int .i64 (cols + 1), rv] ∧ OwnList 38 (w.heap.size + 1 + 1) wr rv vs ((wideR ⟨cols, ll⟩ b).take k)) (fun i _ _ => ll.length - (intOf i).toNat)
  case atStart => exact ⟨0, _, [], Nat.zero_le _, rfl, ex, hB0, r0, r1, .nil _ _ _⟩
  case round =>
    obtain ⟨k, rv, vs, hk, rfl, hbr, hBr, R0, R1, hO⟩ := hrel
    obtain ⟨wo, hwo⟩ : ∃ wo : World, wo = wr := ⟨_, rfl⟩
    rw [← hwo] at hbr hBr R0 R1 hO ⊢
    clear hwo r0 r1 ex hB0
    obtain ⟨q00, q01⟩ := R0.two
    by_cases hlt : k < ll.length
    · have q := HQA.out k hlt
      obtain ⟨u, cu, iu⟩ := la.at hbr hlt
      have HO := Lib.hid hO
      have HT := Lib.hid (wideR_take (m := ⟨cols, ll⟩) (b := b) hlt)
      dsimp only at HT
      have hnl := OK.out.rok.nth_len k
      dsimp only at hnl
      obtain ⟨r, hr⟩ : ∃ r, r = nthL ll k := ⟨_, rfl⟩
      rw [← hr] at iu HT hnl
      obtain ⟨ar, cr, rfl, _⟩ := iu.form
      have IU := Lib.hid iu
      have htl := List.length_take_le k (wideR ⟨cols, ll⟩ b)
      obtain ⟨tl, htle⟩ : ∃ tl, tl = (wideR ⟨cols, ll⟩ b).take k := ⟨_, rfl⟩
      rw [← htle] at HO HT htl
      have B1 : Hid ((0 + r.length) * 8 ≤ 140737488355328) := Lib.hid (by omega)
      have HH := Lib.hid (fun W (hW : Below wo.heap.size wo W) => refHas_quiet ((hbv.ext hbr).ext hW) (k : Int))
      clear hr hO iu htle
      go_wp2_with (at_builtin; refine wpList_appendAll rfl (.tmp 23) (.tmp 28) 38 rfl 3 _ 8 Try.underlying38 info_int rfl wo.heap.size (.slice none 0 0) 0 [] rfl (World.ownsRow_nil _ _ _ _) TT ar r.length cr (r.map (Value.int .i64)) rfl ((ints_ad IU.out).mono fun _ _ => trivial) (by simp) (ints_cells IU.out (.refl _ _)) (oneCell_ints r) B1.out (by omega) (Nat.le_refl _) ?_; intro v3 w3 hown3 hb3 hag3 hv3; have hbo3 : Below wo.heap.size wo w3 := hb3)
      rw [Nat.zero_add, List.nil_append] at hown3
      have hI3 := Ints.of_own hown3 IU.out.wf
      obtain ⟨a3, c3, rfl, _⟩ := hI3.form
      have I3 := Lib.hid hI3
      have OWN3 := Lib.hid hown3
      clear hag3 hv3 hown3 hI3
      go_wp2_with fail
      refine ((HH.out w3 hbo3).mono fun _ _ h => h.post).mono ?_
      rintro _ w4 ⟨_, rfl, hb4, rfl⟩
      have hbo4 := ext_trans hbo3 hb4
      have hO4 := Lib.hid (HO.out.ext hbo4).row
      have R14 := R1.ext hbo4
      have R04 := R0.ext hbo4
      obtain ⟨q04, _⟩ := R04.two
      have hz4 := hbo4.size
      have HNE := Lib.hid (fun (k : Nat) (hk : rv.ownBlock = some k) => (HO.out.row.lt k hk))
      cases hod : memB b (k : Int) with
      | false =>
        rw [hod, if_neg (by simp), List.append_nil] at HT
        have I4 := Lib.hid (I3.out.ext hb4)
        obtain ⟨p20, p21⟩ := R14.two
        clear hod q00 q01
        go_wp2_with (at_builtin; refine wpList_push rfl _ _ 22 rfl 38 _ 24 Try.underlying22 info_ints rfl (w.heap.size + 1 + 1) _ _ _ rfl hO4.out (.slice a3 r.length c3) rfl rfl (by omega) (by omega) (by omega) ?_; intro g6 cp6 w6 hown6 hbel6 hag6 hat6; have R6 := R14.agree (S := fun b => b = w.heap.size + 1) (hag6 _ fun k hk e => by have := (HNE.out k hk).1; omega) rfl; have f6 := R6.free 1; have c6 := R6.cell (j := 1) rfl)
        have HP := out_push0 (T := 24) (OB := w.heap.size + 1) (B := w.heap.size + 1 + 1) (by omega) hBr R1 HO.out hbo4 I4.out hown6 hag6 hbel6 hat6
        obtain ⟨P3, PO, PA, PB⟩ := HP
        have PB0 := PB w.heap.size (by omega)
        have P0 := R0.agreeN PA (by omega) (by omega)
        have hsz := PA.size
        have PO2 := Lib.hid PO
        rw [← HT.out] at PO2
        clear PA PB PO hag6 hown6 hbel6
        go_wp2
        go_roundw
        case rel => exact ⟨k + 1, _, _, by omega, by go_num, hbr.trans PB0, by omega, P0, P3, PO2.out⟩
        case measure => simp [intOf]; omega
      | true =>
        rw [hod, if_pos rfl] at HT
        have OWN4 := Lib.hid (owns_ext OWN3.out hb4)
        clear hod q00 q01
        have hl3 : (r.map (Value.int .i64)).length = r.length := by simp
        have HWF5 := Lib.hid (show ∀ x ∈ r ++ [cols], WF x from fun x hx => by
          rcases List.mem_append.1 hx with h | h
          · exact IU.out.wf x h
          · rw [List.mem_singleton.1 h]; exact WF.small (by omega))
        go_wp2_with (first
          | (at_builtin; refine wpList_push rfl _ _ 38 rfl 3 _ 8 Try.underlying38 info_int rfl wo.heap.size _ _ _ rfl OWN4.out (.int .i64 cols) rfl rfl (by omega) (by omega) hz4 ?_; intro g5 c5 w5 hown5 hbel5 _ _; have hbo5 := hbo4.trans hbel5; have I5 := Lib.hid (Ints.of_own (l := r ++ [cols]) (by simpa using hown5) HWF5.out); have hO5 := Lib.hid (HO.out.ext hbo5).row; have R15 := R1.ext hbo5; have p20 := R15.two.1; have p21 := R15.two.2; have hz5 := hbo5.size; clear hown5 hbel5)
          | (at_builtin; refine wpList_push rfl _ _ 22 rfl 38 _ 24 Try.underlying22 info_ints rfl (w.heap.size + 1 + 1) _ _ _ rfl hO5.out (.slice (some ⟨g5, 0, none⟩) (r.length + 1) c5) rfl rfl (by omega) (by omega) (by omega) ?_; intro g6 cp6 w6 hown6 hbel6 hag6 hat6; have R6 := R15.agree (S := fun b => b = w.heap.size + 1) (hag6 _ fun k hk e => by have := (HNE.out k hk).1; omega) rfl; have f6 := R6.free 1; have c6 := R6.cell (j := 1) rfl))
        have HP := out_push0 (T := 24) (OB := w.heap.size + 1) (B := w.heap.size + 1 + 1) (by omega) hBr R1 HO.out hbo5 (u := .slice (some ⟨g5, 0, none⟩) (r.length + 1) c5) (l := r ++ [cols]) (by simpa using I5.out) hown6 hag6 hbel6 hat6
        obtain ⟨P3, PO, PA, PB⟩ := HP
        have PB0 := PB w.heap.size (by omega)
        have P0 := R0.agreeN PA (by omega) (by omega)
        have hsz := PA.size
        have PO2 := Lib.hid PO
        rw [← HT.out] at PO2
        clear PA PB PO hag6 hown6 hbel6
        go_wp2
        go_roundw
        case rel => exact ⟨k + 1, _, _, by omega, by go_num, hbr.trans PB0, by omega, P0, P3, PO2.out⟩
        case measure => simp [intOf]; omega
    · obtain rfl : k = ll.length := by omega
      rw [show (wideR ⟨cols, ll⟩ b).take ll.length = wideR ⟨cols, ll⟩ b from List.take_of_length_le (by rw [wideR_len]; exact Nat.le_refl _)] at hO
      have hW := hO.lists
      obtain ⟨aw, cw, rfl, _⟩ := hW.form
      rw [wideR_len] at hW R1
      obtain ⟨p10, p11⟩ := R1.two
      have OKW := Lib.hid (OK.out.wide hcs b)
      have KR := Lib.hid (reduced_calls (va := .agg #[.int .i64 (cols + 1), .slice aw ll.length cw]) (m := wideM ⟨cols, ll⟩ b) (w := wo) ⟨_, rfl, hW⟩ OKW.out)
      have KE := Lib.hid OKW.out.kok
      have HS := Lib.hid (fun d => wide_some OK.out hcs (b := b) (d := d))
      have HN := Lib.hid (wide_none OK.out hcs (b := b))
      have HX := Lib.hid (xTo_all OK.out hcs (b := b))
      obtain ⟨E, hE⟩ : ∃ E, E = rowsE (wideM ⟨cols, ll⟩ b) := ⟨_, rfl⟩
      rw [← hE] at KR KE HS HN HX
      have hEl : E.length ≤ 4096 := KE.out.len
      clear hE hW hO
      dsimp only [wideM] at KR
      go_wp2_with fail
      refine KR.out.mono ?_
      rintro _ w5 ⟨_, rfl, hb5, rv5, rfl, hl0⟩
      have hl : Lists TT w5 rv5 E := hl0.mono fun _ _ => trivial
      obtain ⟨a5, c5, rfl, ad5, _, _⟩ := hl.form
      have hx5 := ext_trans hbr hb5
      have R0 := R0.ext hb5
      have HQE := Lib.hid (HQZ.out w5 a5 E.length c5 ad5)
      clear KR hl0 q00 q01 p10 p11 hb5
      try dsimp only
      obtain ⟨w6, hw6⟩ : ∃ w6, w6 = w5.alloc (.cells #[.int .i64 (cols + 1), .slice a5 E.length c5] 24) := ⟨_, rfl⟩
      have hb6 : Below w5.heap.size w5 w6 := by rw [hw6]; exact ext_alloc _ _
      have R9 : Row w6 w5.heap.size 24 [.int .i64 (cols + 1), .slice a5 E.length c5] := by rw [hw6]; exact row_new _ _ _
      have R0 := R0.ext hb6
      have hl := hl.ext hb6
      have hx6 := ext_trans hx5 hb6
      obtain ⟨q00, q01⟩ := R0.two
      obtain ⟨q90, q91⟩ := R9.two
      have KL := Lib.hid (leads_calls (va := .agg #[.int .i64 (cols + 1), .slice a5 E.length c5]) (m := ⟨cols + 1, E⟩) (w := w6) ⟨_, rfl, hl⟩ KE.out.ne cols)
      dsimp only at KL
      go_upto_region 11 with fail
      rw [← hw6]
      clear hw6 hb6
      go_wp2_with fail
      refine KL.out.mono ?_
      rintro _ w7 ⟨_, rfl, hb7, rfl⟩
      have hx7 := ext_trans hx6 hb7
      have R0 := R0.ext hb7
      have R9 := R9.ext hb7
      have HL := Lib.hid (hl.ext hb7)
      clear KL q00 q01 q90 q91 hb7 hl
      cases hd : solD ⟨cols, ll⟩ b with
      | some d =>
        have e := HS.out d hd
        rw [e]
        have HD := Lib.hid hd
        clear hd e
        go_wp2
        go_ret2
        exact .mk hx7 ⟨_, by rw [HD.out]; rfl, by rw [HD.out]; exact .nil _ _⟩
      | none =>
        have e := HN.out hd
        rw [e]
        have HD := Lib.hid hd
        have HXX := Lib.hid (HX.out hd)
        try dsimp only at HXX
        clear hd e
        obtain ⟨q00, q01⟩ := R0.two
        obtain ⟨q90, q91⟩ := R9.two
        go_wp2
        go_loopw [10, 11] (fun vo i wi => ∃ k : Nat, k ≤ E.length ∧ i = .int .i64 k ∧ Below w7.heap.size w7 wi ∧ wi.ownsRow w7.heap.size 3 1 vo (xTo E cols k).length ((xTo E cols k).map (Value.int .i64))) (fun _ i _ => E.length - (intOf i).toNat)
        case atStart => exact ⟨0, Nat.zero_le _, rfl, .refl _ _, World.ownsRow_nil _ _ _ _⟩
        case round =>
          obtain ⟨k, hk, rfl, hbi, ho⟩ := hrel
          have R0i := R0.ext hbi
          have R9i := R9.ext hbi
          obtain ⟨p00, p01⟩ := R0i.two
          obtain ⟨p90, p91⟩ := R9i.two
          by_cases hlt : k < E.length
          · have q := HQE.out k hlt
            obtain ⟨u, cu, iu⟩ := HL.out.at hbi hlt
            have hne := KE.out.ne _ (nthL_mem hlt)
            have hrg := KE.out.lead_rng hlt
            have HT := Lib.hid (xTo_succ hlt cols)
            have hal := xTo_length E cols k
            obtain ⟨r, hr⟩ : ∃ r, r = nthL E k := ⟨_, rfl⟩
            rw [← hr] at iu hne hrg HT
            obtain ⟨ar, cr, rfl, _⟩ := iu.form
            obtain ⟨cf, qf, bf⟩ := first_cell iu hne
            obtain ⟨p, hp⟩ : ∃ p, p = lead r := ⟨_, rfl⟩
            rw [← hp] at cf hrg HT
            have HH := Lib.hid (fun n => refHas_quiet (iu.drewN n) cols)
            obtain ⟨acc, hacc⟩ : ∃ acc, acc = xTo E cols k := ⟨_, rfl⟩
            rw [← hacc] at ho HT hal
            have HO := Lib.hid ho
            clear hr hp hacc ho
            go_wp2_with fail
            go_quiet ((go_at_call 68; exact quiet_calls (HH.out _)))
            have hbd : Below w7.heap.size w7 (wr.drewN nq) := ext_drewN hbi nq
            have hsz := hbd.size
            have OW := Lib.hid (owns_ext HO.out (drewN_below wr.heap.size wr nq))
            cases hod : memB r cols with
            | false =>
              rw [hod, if_neg (by simp), List.append_nil] at HT
              rw [← HT.out] at OW
              clear hod
              go_wp2
              go_roundw
              case rel => exact ⟨k + 1, by omega, by go_num, hbd, OW.out⟩
              case measure => simp [intOf]; omega
            | true =>
              rw [hod, if_pos rfl] at HT
              clear hod
              go_wp2_with (at_builtin; refine wpList_push rfl _ _ 38 rfl 3 _ 8 Try.underlying38 info_int rfl w7.heap.size _ _ _ rfl OW.out (.int .i64 p) rfl rfl (by omega) (by omega) hsz ?_; intro g' c' w8 hown8 hbel8 _ _)
              have hb8 := hbd.trans hbel8
              have hT2 := Lib.hid (show w8.ownsRow w7.heap.size 3 1 (.slice (some ⟨g', 0, none⟩) (acc.length + 1) c') (xTo E cols (k + 1)).length ((xTo E cols (k + 1)).map (Value.int .i64)) from by rw [HT.out]; simpa using hown8)
              clear hown8 hbel8
              go_wp2
              go_roundw
              case rel => exact ⟨k + 1, by omega, by go_num, hb8, hT2.out⟩
              case measure => simp [intOf]; omega
          · obtain rfl : k = E.length := by omega
            rw [HXX.out] at ho
            have hwf : ∀ x ∈ solX ⟨cols, ll⟩ b, WF x := fun x hx => by
              have := (solX_inR OK.out b).2 x hx
              dsimp only at this
              exact WF.small (by omega)
            have HI := Lib.hid ((Ints.of_own ho hwf).mono (S' := TT) fun _ _ => trivial)
            have hbf := ext_trans hx7 hbi
            clear ho hwf
            go_wp2
            go_ret2
            exact .mk hbf ⟨_, by rw [HD.out]; rfl, by rw [HD.out]; exact HI.out⟩

/-- What a call returns: a solution, whether there is one, and an error's number. -/
def RetSl3 (x : List Int) (q : Bool) (e : Int) (w' : World) (r : Value) : Prop := ∃ a n, r = .tuple #[.slice a x.length n, .bool q, .int .i64 e] ∧ Ints TT w' (.slice a x.length n) x
theorem RetSl3.mk {t : (List Int × List Int) × (Bool × Int)} {x y : List Int} {q : Bool} {e : Int} {w' : World} {v : Value} (ht : t = ((x, y), (q, e))) (h : Ints TT w' v x) : RetSl3 t.1.1 t.2.1 t.2.2 w' (.tuple #[v, .bool q, .int .i64 e]) := by
  subst ht
  obtain ⟨a, n, rfl, _⟩ := h.form
  exact ⟨a, n, rfl, h⟩

set_option maxRecDepth 100000 in
set_option maxHeartbeats 2000000 in
theorem refSolve_calls {S S' : Nat → Prop} {w : World} {va vb : Value} {m : Mx} {b : List Int} (ha : MatV S w va m) (hbv : Ints S' w vb b) (hcs : checkM m = 0 → m.cols ≤ 4000) :
    Calls Try.prog 24 #[va, vb] w (Post w (RetSl3 (solS m b).1.1 (solS m b).2.1 (solS m b).2.2)) := by
  obtain ⟨cols, ll⟩ := m
  obtain ⟨ra, rfl, la⟩ := ha
  obtain ⟨aa, acap, rfl, aad, al1, alm⟩ := la.form
  obtain ⟨ab, nb, rfl, _⟩ := hbv.form
  dsimp only at la al1 aad hcs ⊢
  have HCS := Lib.hid hcs
  clear hcs
  have ex : Below w.heap.size w (w.alloc (.cells #[.int .i64 cols, .slice aa ll.length acap] 24)) := ext_alloc w _
  have r0 := row_new w [.int .i64 cols, .slice aa ll.length acap] 24
  have KC := Lib.hid (refCheck_calls (v := .agg #[.int .i64 cols, .slice aa ll.length acap]) (m := ⟨cols, ll⟩) ⟨_, rfl, la.ext ex⟩)
  go_enter Try.func24, Try.ntmps24
  go_wp2_with fail
  refine KC.out.mono ?_
  rintro _ w1 ⟨_, rfl, hb1, rfl⟩
  have hx1 := ext_trans ex hb1
  have R0 := r0.ext hb1
  clear KC r0 ex
  by_cases h1 : ¬ checkM ⟨cols, ll⟩ = 0
  · have e1 : (checkM ⟨cols, ll⟩ != 0) = true := by simp [h1]
    have R := Lib.hid (solS_err (b := b) h1)
    clear h1
    go_wp2
    refine bodyPost_ret (v := .tuple #[.slice none 0 0, .bool false, .int .i64 (checkM ⟨cols, ll⟩)]) (by simp [results, Try.results24, go_sem]) rfl ?_
    exact .mk hx1 (.mk R.out (.nil _ _))
  have h1 := Classical.not_not.1 h1
  have e1 : (checkM ⟨cols, ll⟩ != 0) = false := by simp [h1]
  have H1 := Lib.hid h1
  clear h1
  obtain ⟨q0, q1⟩ := R0.two
  have KV := Lib.hid ((refVector_quiet (hbv.ext hx1) (ll.length : Int)).mono fun _ _ h => h.post)
  go_wp2_with fail
  refine KV.out.mono ?_
  rintro _ w2 ⟨_, rfl, hb2, rfl⟩
  have hx2 := ext_trans hx1 hb2
  have R0 := R0.ext hb2
  clear KV hx1 hb1 hb2 q0 q1
  by_cases h2 : ¬ vecE (ll.length : Int) b = 0
  · have e2 : (vecE (ll.length : Int) b != 0) = true := by simp [h2]
    have R := Lib.hid (solS_vec (m := ⟨cols, ll⟩) H1.out h2)
    clear h2
    go_wp2
    refine bodyPost_ret (v := .tuple #[.slice none 0 0, .bool false, .int .i64 (vecE (ll.length : Int) b)]) (by simp [results, Try.results24, go_sem]) rfl ?_
    exact .mk hx2 (.mk R.out (.nil _ _))
  have h2 := Classical.not_not.1 h2
  have e2 : (vecE (ll.length : Int) b != 0) = false := by simp [h2]
  have H2 := Lib.hid h2
  clear h2
  obtain ⟨q0, q1⟩ := R0.two
  have KT := Lib.hid (refSolution_calls (va := .agg #[.int .i64 cols, .slice aa ll.length acap]) (m := ⟨cols, ll⟩) (w := w2) ⟨_, rfl, la.ext hx2⟩ (hbv.ext hx2) (checkM_zero.1 H1.out) (HCS.out H1.out))
  go_wp2_with fail
  refine KT.out.mono ?_
  rintro _ w3 ⟨_, rfl, hb3, v3, rfl, hI⟩
  have hx3 := ext_trans hx2 hb3
  cases hd : solD ⟨cols, ll⟩ b with
  | some d =>
    have R := Lib.hid (solS_dep (m := ⟨cols, ll⟩) H1.out H2.out hd)
    rw [hd] at hI
    simp only [Option.isNone_some, Bool.false_eq_true, ↓reduceIte] at hI ⊢
    obtain ⟨a3, c3, rfl, _⟩ := hI.form
    have HI := Lib.hid hI
    clear hd hI
    go_wp2
    refine bodyPost_ret (v := .tuple #[.slice a3 0 c3, .bool false, .int .i64 0]) (by simp [results, Try.results24, go_sem]) rfl ?_
    exact .mk hx3 (.mk R.out HI.out)
  | none =>
    have R := Lib.hid (solS_ok (m := ⟨cols, ll⟩) H1.out H2.out hd)
    rw [hd] at hI
    simp only [Option.isNone_none, ↓reduceIte] at hI ⊢
    obtain ⟨a3, c3, rfl, _⟩ := hI.form
    have HI := Lib.hid hI
    clear hd hI
    go_wp2
    refine bodyPost_ret (v := .tuple #[.slice a3 (solX ⟨cols, ll⟩ b).length c3, .bool true, .int .i64 0]) (by simp [results, Try.results24, go_sem]) rfl ?_
    exact .mk hx3 (.mk R.out HI.out)
end Go.Proofs.Ytijmjliijjkcbaa
