/- Sums of matrices, in the program and in the reference. -/
import Derived.Test.YtijmjliijjkcbaaMxOut
namespace Go.Proofs.Ytijmjliijjkcbaa
set_option linter.unusedVariables false
open Go.RowKit
attribute [local go_sem ↓] Go.wp_at_zero Go.wp_at_succ

def addRows (a b : List (List Int)) : List (List Int) := List.zipWith xorL a b
def addS (a b : Mx) : Mx × Int := if bothM a b ≠ 0 then (⟨0, []⟩, bothM a b) else if a.cols ≠ b.cols ∨ a.rows.length ≠ b.rows.length then (⟨0, []⟩, 15) else (⟨a.cols, addRows a.rows b.rows⟩, 0)
theorem addS_err {a b : Mx} (h : bothM a b ≠ 0) : addS a b = (⟨0, []⟩, bothM a b) := by unfold addS; rw [if_pos h]
theorem addS_shape {a b : Mx} (h : bothM a b = 0) (h2 : a.cols ≠ b.cols ∨ a.rows.length ≠ b.rows.length) : addS a b = (⟨0, []⟩, 15) := by unfold addS; rw [if_neg (by simp [h]), if_pos h2]
theorem addS_ok {a b : Mx} (h : bothM a b = 0) (h1 : a.cols = b.cols) (h2 : a.rows.length = b.rows.length) : addS a b = (⟨a.cols, addRows a.rows b.rows⟩, 0) := by unfold addS; rw [if_neg (by simp [h]), if_neg (by simp [h1, h2])]
theorem addRows_take {a b : List (List Int)} {k : Nat} (h1 : k < a.length) (h2 : k < b.length) : (addRows a b).take (k + 1) = (addRows a b).take k ++ [xorL (nthL a k) (nthL b k)] := by
  unfold addRows
  rw [← List.take_append_getElem (show k < (List.zipWith xorL a b).length by simp; omega)]
  rw [List.getElem_zipWith, nthL_eq h1, nthL_eq h2]
theorem addRows_length {a b : List (List Int)} (h : a.length = b.length) : (addRows a b).length = a.length := by unfold addRows; simp; omega
theorem MOk.row_len {m : Mx} (h : MOk m) {k : Nat} (hk : k < m.rows.length) : (nthL m.rows k).length ≤ 4096 := by
  have := Ord.length_le (h.ord _ (nthL_mem hk)) (h.rng _ (nthL_mem hk))
  have := h.c1
  rcases ‹_ ∨ _› with h1 | h1
  · omega
  · rw [h1]; simp

set_option maxRecDepth 100000 in
set_option maxHeartbeats 4000000 in
theorem add_calls {S S' : Nat → Prop} {w : World} {va vb : Value} {a b : Mx} (ha : MatV S w va a) (hb : MatV S' w vb b) :
    Calls Try.prog 41 #[va, vb] w (Post w (RetM w.heap.size (addS a b))) := by
  obtain ⟨ac, al⟩ := a
  obtain ⟨bc, bl⟩ := b
  obtain ⟨ra, rfl, la⟩ := ha
  obtain ⟨rb, rfl, lb⟩ := hb
  obtain ⟨aa, acap, rfl, aad, al1, alm⟩ := la.form
  obtain ⟨ba, bcap, rfl, bad, bl1, blm⟩ := lb.form
  dsimp only at la lb al1 bl1 aad bad ⊢
  unfold maxLen at alm blm
  obtain ⟨i0, hi, hz0, hz1, hz2⟩ := info_parts info_ints
  have HQA := Lib.hid (idx_one Try.underlying22 hi hz1 aad)
  have HQB := Lib.hid (idx_one Try.underlying22 hi hz1 bad)
  have ex : Below w.heap.size w (((w.alloc (.cells #[.int .i64 ac, .slice aa al.length acap] 24)).alloc (.cells #[.int .i64 bc, .slice ba bl.length bcap] 24)).alloc (.cells #[.int .i64 0, .slice none 0 0] 24)) := ext_alloc' (ext_alloc' (ext_alloc w _) _) _
  have r0 := ((row_new w [.int .i64 ac, .slice aa al.length acap] 24).alloc (.cells #[.int .i64 bc, .slice ba bl.length bcap] 24)).alloc (.cells #[.int .i64 0, .slice none 0 0] 24)
  have r1 := (row_new (w.alloc (.cells #[.int .i64 ac, .slice aa al.length acap] 24)) [.int .i64 bc, .slice ba bl.length bcap] 24).alloc (.cells #[.int .i64 0, .slice none 0 0] 24)
  have r2 := row_new ((w.alloc (.cells #[.int .i64 ac, .slice aa al.length acap] 24)).alloc (.cells #[.int .i64 bc, .slice ba bl.length bcap] 24)) [.int .i64 0, .slice none 0 0] 24
  simp only [World.size_alloc] at r1 r2
  have KB := Lib.hid (both_calls (va := .agg #[.int .i64 ac, .slice aa al.length acap]) (vb := .agg #[.int .i64 bc, .slice ba bl.length bcap]) (a := ⟨ac, al⟩) (b := ⟨bc, bl⟩) ⟨_, rfl, la.ext ex⟩ ⟨_, rfl, lb.ext ex⟩)
  go_enter Try.func41, Try.ntmps41
  go_wp2_with fail
  refine KB.out.mono ?_
  rintro _ w1 ⟨_, rfl, hb1, rfl⟩
  have hx1 := ext_trans ex hb1
  have R0 := r0.ext hb1
  have R1 := r1.ext hb1
  have R2 := r2.ext hb1
  clear KB r0 r1 r2 ex
  obtain ⟨q00, q01⟩ := R0.two
  obtain ⟨q10, q11⟩ := R1.two
  obtain ⟨q20, q21⟩ := R2.two
  have f20 := R2.free 0
  have f21 := R2.free 1
  have z2 := R2.lt
  have z1 := R1.lt
  have z0 := R0.lt
  by_cases h1 : ¬ bothM ⟨ac, al⟩ ⟨bc, bl⟩ = 0
  · have e1 : (bothM ⟨ac, al⟩ ⟨bc, bl⟩ != 0) = true := by simp [h1]
    have R := Lib.hid (addS_err h1)
    clear h1
    go_wp2
    refine bodyPost_ret (v := .tuple #[.agg #[.int .i64 0, .slice none 0 0], .int .i64 (bothM ⟨ac, al⟩ ⟨bc, bl⟩)]) (by simp [results, Try.results41, go_sem, q20, q21, f20, f21]) rfl ?_
    exact .mk (set2_below _ _ hx1 (by omega)) (.none R.out)
  have h1 := Classical.not_not.1 h1
  have e1 : (bothM ⟨ac, al⟩ ⟨bc, bl⟩ != 0) = false := by simp [h1]
  have H1 := Lib.hid h1
  clear h1
  by_cases hsh : ac ≠ bc ∨ al.length ≠ bl.length
  · have R : Hid (addS ⟨ac, al⟩ ⟨bc, bl⟩ = (⟨0, []⟩, 15)) := Lib.hid (addS_shape H1.out hsh)
    by_cases hc : ac = bc
    · have e2 : (ac != bc) = false := by simp [hc]
      have e3 : ((al.length : Int) != bl.length) = true := by
        rcases hsh with h | h
        · exact absurd hc h
        · simp; omega
      clear hsh hc
      go_wp2
      refine bodyPost_ret (v := .tuple #[.agg #[.int .i64 0, .slice none 0 0], .int .i64 15]) (by simp [results, Try.results41, go_sem, q20, q21, f20, f21]) rfl ?_
      exact .mk (set2_below _ _ hx1 (by omega)) (.none R.out)
    · have e2 : (ac != bc) = true := by simp [hc]
      clear hsh hc
      go_wp2
      refine bodyPost_ret (v := .tuple #[.agg #[.int .i64 0, .slice none 0 0], .int .i64 15]) (by simp [results, Try.results41, go_sem, q20, q21, f20, f21]) rfl ?_
      exact .mk (set2_below _ _ hx1 (by omega)) (.none R.out)
  have hc : ac = bc := Classical.byContradiction fun h => hsh (.inl h)
  have hlen : al.length = bl.length := Classical.byContradiction fun h => hsh (.inr h)
  have e2 : (ac != bc) = false := by simp [hc]
  have e3 : ((al.length : Int) != bl.length) = false := by simp [hlen]
  have R : Hid (addS ⟨ac, al⟩ ⟨bc, bl⟩ = (⟨ac, addRows al bl⟩, 0)) := Lib.hid (addS_ok H1.out hc hlen)
  obtain ⟨hma, hmb⟩ := bothM_zero.1 H1.out
  have HMA := Lib.hid (checkM_zero.1 hma)
  have HMB := Lib.hid (checkM_zero.1 hmb)
  have HL := Lib.hid hlen
  clear hsh hc hlen hma hmb
  have hal : al.length ≤ 4096 := HMA.out.r1
  have R3 := row_new w1 [.int .i64 ac, .slice none 0 0] 24
  have R0 := R0.alloc (.cells #[.int .i64 ac, .slice none 0 0] 24)
  have R1 := R1.alloc (.cells #[.int .i64 ac, .slice none 0 0] 24)
  have R2 := R2.alloc (.cells #[.int .i64 ac, .slice none 0 0] 24)
  have hx2 := ext_alloc' hx1 (.cells #[.int .i64 ac, .slice none 0 0] 24)
  go_wp2
  obtain ⟨OB, hOB⟩ : ∃ OB, OB = w1.heap.size := ⟨_, rfl⟩
  rw [← hOB] at R3 ⊢
  obtain ⟨w2, hw2⟩ : ∃ w2, w2 = w1.alloc (.cells #[.int .i64 ac, .slice none 0 0] 24) := ⟨_, rfl⟩
  rw [← hw2] at R0 R1 R2 R3 hx2 ⊢
  have hz2w : OB + 1 ≤ w2.heap.size := by rw [hw2, hOB]; simp
  have zOB : w.heap.size + 2 < OB := by omega
  clear q00 q01 q10 q11 q20 q21 f20 f21 z2 z1 z0 hOB hw2 hb1 hx1
  go_loopw [37] (fun i wr => ∃ (k : Nat) (rv : Value) (vs : List Value), k ≤ al.length ∧ i = .int .i64 k ∧ Below w.heap.size w wr ∧ OB + 1 ≤ wr.heap.size ∧ Row wr w.heap.size 24 [.int .i64 ac, .slice aa al.length acap] ∧ Row wr (w.heap.size + 1) 24 [.int .i64 bc, .slice ba bl.length bcap] ∧
      Row wr (w.heap.size + 1 + 1) 24 [.int .i64 0, .slice none 0 0] ∧ Row wr OB 24 [.int .i64 ac, rv] ∧ OwnList 38 (OB + 1) wr rv vs ((addRows al bl).take k)) (fun i _ => al.length - (intOf i).toNat)
  case atStart => exact ⟨0, _, _, Nat.zero_le _, rfl, hx2, hz2w, R0, R1, R2, R3, .nil _ _ _⟩
  case round =>
    obtain ⟨k, rv, vs, hk, rfl, hb, hzr, R0, R1, R2, R3, hO⟩ := hrel
    by_cases hlt : k < al.length
    · have hlt2 : k < bl.length := by have := HL.out; omega
      obtain ⟨q00, q01⟩ := R0.two
      obtain ⟨q10, q11⟩ := R1.two
      obtain ⟨q30, q31⟩ := R3.two
      have qa := HQA.out k hlt
      have qb := HQB.out k hlt2
      obtain ⟨u, cu, iu⟩ := la.at hb hlt
      obtain ⟨v, cv, iv⟩ := lb.at hb hlt2
      have hul := HMA.out.row_len hlt
      have hvl := HMB.out.row_len hlt2
      have HT := Lib.hid (addRows_take hlt hlt2)
      obtain ⟨x, hx⟩ : ∃ x, x = xorL (nthL al k) (nthL bl k) := ⟨_, rfl⟩
      have HS : Hid (∀ W, Below wr.heap.size wr W → Calls Try.prog 58 #[u, v] W (Post W fun w' r => Ints (fun b => W.heap.size ≤ b) w' r x)) := Lib.hid (fun W hW => by rw [hx]; exact sum_calls (iu.ext hW) (iv.ext hW) (by dsimp only at hul hvl; omega))
      rw [← hx] at HT
      have HX := Lib.hid hx
      clear hx hul hvl iu iv
      have hrefl := Below.refl wr.heap.size wr
      obtain ⟨ll, hll⟩ : ∃ ll, ll = (addRows al bl).take k := ⟨_, rfl⟩
      rw [← hll] at hO HT
      have hln : ll.length ≤ 4096 := by rw [hll, List.length_take]; omega
      have HLL := Lib.hid hll
      clear hll
      have B1 := Lib.hid (show ll.length + 1 ≤ maxLen by unfold maxLen; omega)
      have B2 := Lib.hid (show (ll.length + 1) * 24 ≤ 140737488355328 by omega)
      have zR3 := R3.lt
      have HNE := Lib.hid (show rv.ownBlock ≠ some OB from fun h => by have := (hO.row.lt _ h).1; omega)
      have hAa := adr_block aad hlt
      have hBa := adr_block bad hlt2
      have hbs := hb.size
      have HOWN : Hid (∀ b, b < OB + 1 → rv.ownBlock ≠ some b) := Lib.hid (fun b hb h => by have := (hO.row.lt _ h).1; omega)
      have KEEP : Hid (∀ W', Agree (fun b => b < OB + 1) wr W' → (fun w' : World => w'.cell? ⟨w.heap.size, 1, none⟩ = some (.slice aa al.length acap) ∧ w'.cell? ⟨w.heap.size + 1, 1, none⟩ = some (.slice ba bl.length bcap) ∧ w'.cell? (adr aa k) = some u ∧ w'.cell? (adr ba k) = some v ∧ w'.cell? ⟨OB, 1, none⟩ = some rv) W') := Lib.hid (fun W' hW' => ⟨cell_agree q01 hW' (show _ < _ by simp; omega), cell_agree q11 hW' (show _ < _ by simp; omega), cell_agree cu hW' (show _ < _ by omega), cell_agree cv hW' (show _ < _ by omega), cell_agree q31 hW' (show _ < _ by simp)⟩)
      have hA0 : Agree (fun b => b < OB + 1) wr wr := .refl _ _
      go_wp2
      refine region_E (fun w' : World => w'.cell? ⟨w.heap.size, 1, none⟩ = some (.slice aa al.length acap) ∧ w'.cell? ⟨w.heap.size + 1, 1, none⟩ = some (.slice ba bl.length bcap) ∧ w'.cell? (adr aa k) = some u ∧ w'.cell? (adr ba k) = some v ∧ w'.cell? ⟨OB, 1, none⟩ = some rv) (fun i => i == 16) (by kernel_rfl) ?_ (fun hHeld => ?_)
      · exact KEEP.out _ hA0.drew
      refine anyE_take 0 (v := ?_) rfl (by kernel_rfl) (fun _ _ _ h => h) (by rfl) ?hy0 hHeld ?rest0
      case hy0 => (intro w hSw; (try dsimp only at hSw); go_simp; try with_reducible rfl)
      try simp only [Act.put, List.setIfInBounds_toArray, List.set_cons_zero, List.set_cons_succ]
      refine anyE_take 1 (v := ?_) rfl (by kernel_rfl) (fun _ _ _ h => h) (by rfl) ?hy1 hHeld ?rest1
      case hy1 => (intro w hSw; (try dsimp only at hSw); go_simp; try with_reducible rfl)
      try simp only [Act.put, List.setIfInBounds_toArray, List.set_cons_zero, List.set_cons_succ]
      refine anyE_take 2 (v := ?_) rfl (by kernel_rfl) (fun _ _ _ h => h) (by rfl) ?hy2 hHeld ?rest2
      case hy2 => (intro w hSw; (try dsimp only at hSw); go_simp; try with_reducible rfl)
      try simp only [Act.put, List.setIfInBounds_toArray, List.set_cons_zero, List.set_cons_succ]
      refine anyE_take 3 (v := ?_) rfl (by kernel_rfl) (fun _ _ _ h => h) (by rfl) ?hy3 hHeld ?rest3
      case hy3 => (intro w hSw; (try dsimp only at hSw); go_simp; try with_reducible rfl)
      try simp only [Act.put, List.setIfInBounds_toArray, List.set_cons_zero, List.set_cons_succ]
      refine anyE_take 4 (v := ?_) rfl (by kernel_rfl) (fun _ _ _ h => h) (by rfl) ?hy4 hHeld ?rest4
      case hy4 => (intro w hSw; (try dsimp only at hSw); go_simp; try with_reducible rfl)
      try simp only [Act.put, List.setIfInBounds_toArray, List.set_cons_zero, List.set_cons_succ]
      refine anyE_take 5 (v := ?_) rfl (by kernel_rfl) (fun _ _ _ h => h) (by rfl) ?hy5 hHeld ?rest5
      case hy5 => (intro w hSw; (try dsimp only at hSw); go_simp; try with_reducible rfl)
      try simp only [Act.put, List.setIfInBounds_toArray, List.set_cons_zero, List.set_cons_succ]
      refine anyE_take 6 (v := ?_) rfl (by kernel_rfl) (fun _ _ _ h => h) (by rfl) ?hy6 hHeld ?rest6
      case hy6 => (intro w hSw; (try dsimp only at hSw); go_simp; try with_reducible rfl)
      try simp only [Act.put, List.setIfInBounds_toArray, List.set_cons_zero, List.set_cons_succ]
      refine anyE_take 7 (v := ?_) rfl (by kernel_rfl) (fun _ _ _ h => h) (by rfl) ?hy7 hHeld ?rest7
      case hy7 => (intro w hSw; (try dsimp only at hSw); go_simp; try with_reducible rfl)
      try simp only [Act.put, List.setIfInBounds_toArray, List.set_cons_zero, List.set_cons_succ]
      refine anyE_take 8 (v := ?_) rfl (by kernel_rfl) (fun _ _ _ h => h) (by rfl) ?hy8 hHeld ?rest8
      case hy8 => (intro w hSw; (try dsimp only at hSw); go_simp; try with_reducible rfl)
      try simp only [Act.put, List.setIfInBounds_toArray, List.set_cons_zero, List.set_cons_succ]
      refine anyE_take 9 (v := ?_) rfl (by kernel_rfl) (fun _ _ _ h => h) (by rfl) ?hy9 hHeld ?rest9
      case hy9 => (intro w hSw; (try dsimp only at hSw); go_simp; try with_reducible rfl)
      try simp only [Act.put, List.setIfInBounds_toArray, List.set_cons_zero, List.set_cons_succ]
      refine anyE_take 10 (v := ?_) rfl (by kernel_rfl) (fun _ _ _ h => h) (by rfl) ?hy10 hHeld ?rest10
      case hy10 => (intro w hSw; (try dsimp only at hSw); go_simp; try with_reducible rfl)
      try simp only [Act.put, List.setIfInBounds_toArray, List.set_cons_zero, List.set_cons_succ]
      refine anyE_take 11 (v := ?_) rfl (by kernel_rfl) (fun _ _ _ h => h) (by rfl) ?hy11 hHeld ?rest11
      case hy11 => (intro w hSw; (try dsimp only at hSw); go_simp; try with_reducible rfl)
      try simp only [Act.put, List.setIfInBounds_toArray, List.set_cons_zero, List.set_cons_succ]
      refine anyE_one 12 rfl (by kernel_rfl) (fun K hK => ?_)
      go_simp; go_at_call 58; refine (HS.out _ (drewN_below _ _ 1)).mono ?_; rintro _ w5 ⟨v5, rfl, hb5, hx5⟩; obtain ⟨a5, c5, rfl, _⟩ := hx5.form; have hbb : Below wr.heap.size wr w5 := ext_trans (drewN_below _ _ 1) hb5; have OWN5 := Lib.hid (owns_ext hO.row hbb); have hl5 : OB < w5.heap.size := Nat.le_trans hzr hbb.size; have hA5 : Agree (fun b => b < OB + 1) wr w5 := .of_ext hbb
      refine hK.out _ _ (fun _ => KEEP.out _ hA5) (fun hHeld => ?_); replace hHeld := hHeld rfl
      clear hK K
      try simp only [Act.put, List.setIfInBounds_toArray, List.set_cons_zero, List.set_cons_succ]
      refine anyE_one 13 rfl (by kernel_rfl) (fun K hK => ?_)
      go_simp
      refine hK.out _ _ (fun _ => KEEP.out _ (hA5.alloc _)) (fun hHeld => ?_); replace hHeld := hHeld rfl
      clear hK K
      try simp only [Act.put, List.setIfInBounds_toArray, List.set_cons_zero, List.set_cons_succ]
      refine anyE_one 14 rfl (by kernel_rfl) (fun K hK => ?_)
      (refine step_append_lies _ (by rfl) _ _ _ (by rfl) (OB + 1) 38 i0 _ 1 24 Try.underlying22 hi hz0 hz1 hz2 rfl (by decide) rv ll.length vs (by rfl) (OWN5.out.alloc _) ⟨w5.heap.size, 0, none⟩ 1 1 [.slice a5 x.length c5] (by rfl) (by rfl) (World.news_of_block (cs := #[.slice a5 x.length c5]) (t := 38) (fr := (0, 0)) (heap_alloc_new w5 _)) (by simp [Value.oneCell']) (by decide) B1.out B2.out (by simp; omega) (w5.heap.size + 1) (by simp) ?_; intro g6 cp6 w6 hown6 hgrow6 hat6 hlt6; have R6 := (((R3.ext hbb).alloc (.cells #[.slice a5 x.length c5] 38))).grown hgrow6 HNE.out; have f6 := R6.free 1; have c6 := R6.cell (j := 1) rfl)
      refine hK.out _ _ (fun _ => KEEP.out _ ((hA5.alloc _).trans (.of_grown hgrow6 HOWN.out))) (fun hHeld => ?_); replace hHeld := hHeld rfl
      clear hK K
      try simp only [Act.put, List.setIfInBounds_toArray, List.set_cons_zero, List.set_cons_succ]
      refine anyE_take 15 (v := ?_) rfl (by kernel_rfl) (fun _ _ _ h => h) (by rfl) ?hy15 hHeld ?rest15
      case hy15 => (intro w hSw; (try dsimp only at hSw); go_simp; try with_reducible rfl)
      try simp only [Act.put, List.setIfInBounds_toArray, List.set_cons_zero, List.set_cons_succ]
      refine anyE_one 16 rfl (by kernel_rfl) (fun K hK => ?_)
      go_simp
      refine hK.out _ _ (fun h => by simp at h) (fun hHeld => ?_)
      clear hK K
      try simp only [Act.put, List.setIfInBounds_toArray, List.set_cons_zero, List.set_cons_succ]
      refine anyE_done (by kernel_rfl) ?_ _
      have hrs := hbb.size
      have HP := out_push (T := 24) (OB := OB) (B := OB + 1) (by omega) hzr R3 hO hbb (hx5.mono fun b hb => hb) (by first | exact ext_alloc _ _ | exact (ext_alloc _ _).drew) hown6 hgrow6 (hat6.imp id fun h => by omega)
      obtain ⟨P3, PO, PA, PB⟩ := HP
      have PB0 := PB w.heap.size (by omega)
      have P0 := R0.agreeN PA (by omega) (by omega)
      have P1 := R1.agreeN PA (by omega) (by omega)
      have P2 := R2.agreeN PA (by omega) (by omega)
      have hsz := PA.size
      rw [← HT.out] at PO
      clear PA PB
      go_wp2
      go_roundw
      case rel => exact ⟨k + 1, _, _, by omega, by go_num, hb.trans PB0, by omega, P0, P1, P2, P3, PO⟩
      case measure => simp [intOf]; omega
    · have HE := Lib.hid (show (addRows al bl).take k = addRows al bl from List.take_of_length_le (by rw [addRows_length HL.out]; omega))
      have hL := hO.lists
      rw [HE.out] at hL
      obtain ⟨a9, c9, rfl, _⟩ := hL.form
      obtain ⟨q30, q31⟩ := R3.two
      obtain ⟨q00, q01⟩ := R0.two
      obtain ⟨q20, q21⟩ := R2.two
      have f20 := R2.free 0
      have f21 := R2.free 1
      go_wp2
      refine bodyPost_ret (v := .tuple #[.agg #[.int .i64 ac, .slice a9 (addRows al bl).length c9], .int .i64 0]) (by simp [results, Try.results41, go_sem, q20, q21, f20, f21]) rfl ?_
      exact .mk (set2_below _ _ hb (by omega)) (.mk R.out ((hL.agree (set2_agree _ _ (by omega))).mono fun b hb => by omega))

set_option maxRecDepth 100000 in
set_option maxHeartbeats 4000000 in
theorem refAdd_calls {S S' : Nat → Prop} {w : World} {va vb : Value} {a b : Mx} (ha : MatV S w va a) (hb : MatV S' w vb b) :
    Calls Try.prog 42 #[va, vb] w (Post w (RetM w.heap.size (addS a b))) := by
  obtain ⟨ac, al⟩ := a
  obtain ⟨bc, bl⟩ := b
  obtain ⟨ra, rfl, la⟩ := ha
  obtain ⟨rb, rfl, lb⟩ := hb
  obtain ⟨aa, acap, rfl, aad, al1, alm⟩ := la.form
  obtain ⟨ba, bcap, rfl, bad, bl1, blm⟩ := lb.form
  dsimp only at la lb al1 bl1 aad bad ⊢
  unfold maxLen at alm blm
  obtain ⟨i0, hi, hz0, hz1, hz2⟩ := info_parts info_ints
  have HQA := Lib.hid (idx_one Try.underlying22 hi hz1 aad)
  have HQB := Lib.hid (idx_one Try.underlying22 hi hz1 bad)
  have ex : Below w.heap.size w (((w.alloc (.cells #[.int .i64 ac, .slice aa al.length acap] 24)).alloc (.cells #[.int .i64 bc, .slice ba bl.length bcap] 24)).alloc (.cells #[.int .i64 0, .slice none 0 0] 24)) := ext_alloc' (ext_alloc' (ext_alloc w _) _) _
  have r0 := ((row_new w [.int .i64 ac, .slice aa al.length acap] 24).alloc (.cells #[.int .i64 bc, .slice ba bl.length bcap] 24)).alloc (.cells #[.int .i64 0, .slice none 0 0] 24)
  have r1 := (row_new (w.alloc (.cells #[.int .i64 ac, .slice aa al.length acap] 24)) [.int .i64 bc, .slice ba bl.length bcap] 24).alloc (.cells #[.int .i64 0, .slice none 0 0] 24)
  have r2 := row_new ((w.alloc (.cells #[.int .i64 ac, .slice aa al.length acap] 24)).alloc (.cells #[.int .i64 bc, .slice ba bl.length bcap] 24)) [.int .i64 0, .slice none 0 0] 24
  simp only [World.size_alloc] at r1 r2
  have KB := Lib.hid (refBoth_calls (va := .agg #[.int .i64 ac, .slice aa al.length acap]) (vb := .agg #[.int .i64 bc, .slice ba bl.length bcap]) (a := ⟨ac, al⟩) (b := ⟨bc, bl⟩) ⟨_, rfl, la.ext ex⟩ ⟨_, rfl, lb.ext ex⟩)
  go_enter Try.func42, Try.ntmps42
  go_wp2_with fail
  refine KB.out.mono ?_
  rintro _ w1 ⟨_, rfl, hb1, rfl⟩
  have hx1 := ext_trans ex hb1
  have R0 := r0.ext hb1
  have R1 := r1.ext hb1
  have R2 := r2.ext hb1
  clear KB r0 r1 r2 ex
  obtain ⟨q00, q01⟩ := R0.two
  obtain ⟨q10, q11⟩ := R1.two
  obtain ⟨q20, q21⟩ := R2.two
  have f20 := R2.free 0
  have f21 := R2.free 1
  have z2 := R2.lt
  have z1 := R1.lt
  have z0 := R0.lt
  by_cases h1 : ¬ bothM ⟨ac, al⟩ ⟨bc, bl⟩ = 0
  · have e1 : (bothM ⟨ac, al⟩ ⟨bc, bl⟩ != 0) = true := by simp [h1]
    have R := Lib.hid (addS_err h1)
    clear h1
    go_wp2
    refine bodyPost_ret (v := .tuple #[.agg #[.int .i64 0, .slice none 0 0], .int .i64 (bothM ⟨ac, al⟩ ⟨bc, bl⟩)]) (by simp [results, Try.results42, go_sem, q20, q21, f20, f21]) rfl ?_
    exact .mk (set2_below _ _ hx1 (by omega)) (.none R.out)
  have h1 := Classical.not_not.1 h1
  have e1 : (bothM ⟨ac, al⟩ ⟨bc, bl⟩ != 0) = false := by simp [h1]
  have H1 := Lib.hid h1
  clear h1
  by_cases hsh : ac ≠ bc ∨ al.length ≠ bl.length
  · have R : Hid (addS ⟨ac, al⟩ ⟨bc, bl⟩ = (⟨0, []⟩, 15)) := Lib.hid (addS_shape H1.out hsh)
    by_cases hc : ac = bc
    · have e2 : (ac != bc) = false := by simp [hc]
      have e3 : ((al.length : Int) != bl.length) = true := by
        rcases hsh with h | h
        · exact absurd hc h
        · simp; omega
      clear hsh hc
      go_wp2
      refine bodyPost_ret (v := .tuple #[.agg #[.int .i64 0, .slice none 0 0], .int .i64 15]) (by simp [results, Try.results42, go_sem, q20, q21, f20, f21]) rfl ?_
      exact .mk (set2_below _ _ hx1 (by omega)) (.none R.out)
    · have e2 : (ac != bc) = true := by simp [hc]
      clear hsh hc
      go_wp2
      refine bodyPost_ret (v := .tuple #[.agg #[.int .i64 0, .slice none 0 0], .int .i64 15]) (by simp [results, Try.results42, go_sem, q20, q21, f20, f21]) rfl ?_
      exact .mk (set2_below _ _ hx1 (by omega)) (.none R.out)
  have hc : ac = bc := Classical.byContradiction fun h => hsh (.inl h)
  have hlen : al.length = bl.length := Classical.byContradiction fun h => hsh (.inr h)
  have e2 : (ac != bc) = false := by simp [hc]
  have e3 : ((al.length : Int) != bl.length) = false := by simp [hlen]
  have R : Hid (addS ⟨ac, al⟩ ⟨bc, bl⟩ = (⟨ac, addRows al bl⟩, 0)) := Lib.hid (addS_ok H1.out hc hlen)
  obtain ⟨hma, hmb⟩ := bothM_zero.1 H1.out
  have HMA := Lib.hid (checkM_zero.1 hma)
  have HMB := Lib.hid (checkM_zero.1 hmb)
  have HL := Lib.hid hlen
  clear hsh hc hlen hma hmb
  have hal : al.length ≤ 4096 := HMA.out.r1
  have R3 := row_new w1 [.int .i64 ac, .slice none 0 0] 24
  have R0 := R0.alloc (.cells #[.int .i64 ac, .slice none 0 0] 24)
  have R1 := R1.alloc (.cells #[.int .i64 ac, .slice none 0 0] 24)
  have R2 := R2.alloc (.cells #[.int .i64 ac, .slice none 0 0] 24)
  have hx2 := ext_alloc' hx1 (.cells #[.int .i64 ac, .slice none 0 0] 24)
  go_wp2
  obtain ⟨OB, hOB⟩ : ∃ OB, OB = w1.heap.size := ⟨_, rfl⟩
  rw [← hOB] at R3 ⊢
  obtain ⟨w2, hw2⟩ : ∃ w2, w2 = w1.alloc (.cells #[.int .i64 ac, .slice none 0 0] 24) := ⟨_, rfl⟩
  rw [← hw2] at R0 R1 R2 R3 hx2 ⊢
  have hz2w : OB + 1 ≤ w2.heap.size := by rw [hw2, hOB]; simp
  have zOB : w.heap.size + 2 < OB := by omega
  clear q00 q01 q10 q11 q20 q21 f20 f21 z2 z1 z0 hOB hw2 hb1 hx1
  go_loopw [8] (fun i wr => ∃ (k : Nat) (rv : Value) (vs : List Value), k ≤ al.length ∧ i = .int .i64 k ∧ Below w.heap.size w wr ∧ OB + 1 ≤ wr.heap.size ∧ Row wr w.heap.size 24 [.int .i64 ac, .slice aa al.length acap] ∧ Row wr (w.heap.size + 1) 24 [.int .i64 bc, .slice ba bl.length bcap] ∧
      Row wr (w.heap.size + 1 + 1) 24 [.int .i64 0, .slice none 0 0] ∧ Row wr OB 24 [.int .i64 ac, rv] ∧ OwnList 38 (OB + 1) wr rv vs ((addRows al bl).take k)) (fun i _ => al.length - (intOf i).toNat)
  case atStart => exact ⟨0, _, _, Nat.zero_le _, rfl, hx2, hz2w, R0, R1, R2, R3, .nil _ _ _⟩
  case round =>
    obtain ⟨k, rv, vs, hk, rfl, hb, hzr, R0, R1, R2, R3, hO⟩ := hrel
    by_cases hlt : k < al.length
    · have hlt2 : k < bl.length := by have := HL.out; omega
      obtain ⟨q00, q01⟩ := R0.two
      obtain ⟨q10, q11⟩ := R1.two
      obtain ⟨q30, q31⟩ := R3.two
      have qa := HQA.out k hlt
      have qb := HQB.out k hlt2
      obtain ⟨u, cu, iu⟩ := la.at hb hlt
      obtain ⟨v, cv, iv⟩ := lb.at hb hlt2
      have hul := HMA.out.row_len hlt
      have hvl := HMB.out.row_len hlt2
      have HT := Lib.hid (addRows_take hlt hlt2)
      obtain ⟨x, hx⟩ : ∃ x, x = xorL (nthL al k) (nthL bl k) := ⟨_, rfl⟩
      have HS : Hid (∀ W, Below wr.heap.size wr W → Calls Try.prog 32 #[u, v] W (Post W fun w' r => Ints (fun b => W.heap.size ≤ b) w' r x)) := Lib.hid (fun W hW => by rw [hx]; exact plus_calls (iu.ext hW) (iv.ext hW) (by dsimp only at hul hvl; omega))
      rw [← hx] at HT
      have HX := Lib.hid hx
      clear hx hul hvl iu iv
      have hrefl := Below.refl wr.heap.size wr
      obtain ⟨ll, hll⟩ : ∃ ll, ll = (addRows al bl).take k := ⟨_, rfl⟩
      rw [← hll] at hO HT
      have hln : ll.length ≤ 4096 := by rw [hll, List.length_take]; omega
      have HLL := Lib.hid hll
      clear hll
      have B1 := Lib.hid (show ll.length + 1 ≤ maxLen by unfold maxLen; omega)
      have B2 := Lib.hid (show (ll.length + 1) * 24 ≤ 140737488355328 by omega)
      have zR3 := R3.lt
      have HNE := Lib.hid (show rv.ownBlock ≠ some OB from fun h => by have := (hO.row.lt _ h).1; omega)
      have hAa := adr_block aad hlt
      have hBa := adr_block bad hlt2
      have hbs := hb.size
      have HOWN : Hid (∀ b, b < OB + 1 → rv.ownBlock ≠ some b) := Lib.hid (fun b hb h => by have := (hO.row.lt _ h).1; omega)
      have KEEP : Hid (∀ W', Agree (fun b => b < OB + 1) wr W' → (fun w' : World => w'.cell? ⟨w.heap.size, 1, none⟩ = some (.slice aa al.length acap) ∧ w'.cell? ⟨w.heap.size + 1, 1, none⟩ = some (.slice ba bl.length bcap) ∧ w'.cell? (adr aa k) = some u ∧ w'.cell? (adr ba k) = some v ∧ w'.cell? ⟨OB, 1, none⟩ = some rv) W') := Lib.hid (fun W' hW' => ⟨cell_agree q01 hW' (show _ < _ by simp; omega), cell_agree q11 hW' (show _ < _ by simp; omega), cell_agree cu hW' (show _ < _ by omega), cell_agree cv hW' (show _ < _ by omega), cell_agree q31 hW' (show _ < _ by simp)⟩)
      have hA0 : Agree (fun b => b < OB + 1) wr wr := .refl _ _
      go_wp2
      refine region_E (fun w' : World => w'.cell? ⟨w.heap.size, 1, none⟩ = some (.slice aa al.length acap) ∧ w'.cell? ⟨w.heap.size + 1, 1, none⟩ = some (.slice ba bl.length bcap) ∧ w'.cell? (adr aa k) = some u ∧ w'.cell? (adr ba k) = some v ∧ w'.cell? ⟨OB, 1, none⟩ = some rv) (fun i => i == 16) (by kernel_rfl) ?_ (fun hHeld => ?_)
      · exact KEEP.out _ hA0.drew
      refine anyE_take 0 (v := ?_) rfl (by kernel_rfl) (fun _ _ _ h => h) (by rfl) ?hy0 hHeld ?rest0
      case hy0 => (intro w hSw; (try dsimp only at hSw); go_simp; try with_reducible rfl)
      try simp only [Act.put, List.setIfInBounds_toArray, List.set_cons_zero, List.set_cons_succ]
      refine anyE_take 1 (v := ?_) rfl (by kernel_rfl) (fun _ _ _ h => h) (by rfl) ?hy1 hHeld ?rest1
      case hy1 => (intro w hSw; (try dsimp only at hSw); go_simp; try with_reducible rfl)
      try simp only [Act.put, List.setIfInBounds_toArray, List.set_cons_zero, List.set_cons_succ]
      refine anyE_take 2 (v := ?_) rfl (by kernel_rfl) (fun _ _ _ h => h) (by rfl) ?hy2 hHeld ?rest2
      case hy2 => (intro w hSw; (try dsimp only at hSw); go_simp; try with_reducible rfl)
      try simp only [Act.put, List.setIfInBounds_toArray, List.set_cons_zero, List.set_cons_succ]
      refine anyE_take 3 (v := ?_) rfl (by kernel_rfl) (fun _ _ _ h => h) (by rfl) ?hy3 hHeld ?rest3
      case hy3 => (intro w hSw; (try dsimp only at hSw); go_simp; try with_reducible rfl)
      try simp only [Act.put, List.setIfInBounds_toArray, List.set_cons_zero, List.set_cons_succ]
      refine anyE_take 4 (v := ?_) rfl (by kernel_rfl) (fun _ _ _ h => h) (by rfl) ?hy4 hHeld ?rest4
      case hy4 => (intro w hSw; (try dsimp only at hSw); go_simp; try with_reducible rfl)
      try simp only [Act.put, List.setIfInBounds_toArray, List.set_cons_zero, List.set_cons_succ]
      refine anyE_take 5 (v := ?_) rfl (by kernel_rfl) (fun _ _ _ h => h) (by rfl) ?hy5 hHeld ?rest5
      case hy5 => (intro w hSw; (try dsimp only at hSw); go_simp; try with_reducible rfl)
      try simp only [Act.put, List.setIfInBounds_toArray, List.set_cons_zero, List.set_cons_succ]
      refine anyE_take 6 (v := ?_) rfl (by kernel_rfl) (fun _ _ _ h => h) (by rfl) ?hy6 hHeld ?rest6
      case hy6 => (intro w hSw; (try dsimp only at hSw); go_simp; try with_reducible rfl)
      try simp only [Act.put, List.setIfInBounds_toArray, List.set_cons_zero, List.set_cons_succ]
      refine anyE_take 7 (v := ?_) rfl (by kernel_rfl) (fun _ _ _ h => h) (by rfl) ?hy7 hHeld ?rest7
      case hy7 => (intro w hSw; (try dsimp only at hSw); go_simp; try with_reducible rfl)
      try simp only [Act.put, List.setIfInBounds_toArray, List.set_cons_zero, List.set_cons_succ]
      refine anyE_take 8 (v := ?_) rfl (by kernel_rfl) (fun _ _ _ h => h) (by rfl) ?hy8 hHeld ?rest8
      case hy8 => (intro w hSw; (try dsimp only at hSw); go_simp; try with_reducible rfl)
      try simp only [Act.put, List.setIfInBounds_toArray, List.set_cons_zero, List.set_cons_succ]
      refine anyE_take 9 (v := ?_) rfl (by kernel_rfl) (fun _ _ _ h => h) (by rfl) ?hy9 hHeld ?rest9
      case hy9 => (intro w hSw; (try dsimp only at hSw); go_simp; try with_reducible rfl)
      try simp only [Act.put, List.setIfInBounds_toArray, List.set_cons_zero, List.set_cons_succ]
      refine anyE_take 10 (v := ?_) rfl (by kernel_rfl) (fun _ _ _ h => h) (by rfl) ?hy10 hHeld ?rest10
      case hy10 => (intro w hSw; (try dsimp only at hSw); go_simp; try with_reducible rfl)
      try simp only [Act.put, List.setIfInBounds_toArray, List.set_cons_zero, List.set_cons_succ]
      refine anyE_take 11 (v := ?_) rfl (by kernel_rfl) (fun _ _ _ h => h) (by rfl) ?hy11 hHeld ?rest11
      case hy11 => (intro w hSw; (try dsimp only at hSw); go_simp; try with_reducible rfl)
      try simp only [Act.put, List.setIfInBounds_toArray, List.set_cons_zero, List.set_cons_succ]
      refine anyE_one 12 rfl (by kernel_rfl) (fun K hK => ?_)
      go_simp; go_at_call 32; refine (HS.out _ (drewN_below _ _ 1)).mono ?_; rintro _ w5 ⟨v5, rfl, hb5, hx5⟩; obtain ⟨a5, c5, rfl, _⟩ := hx5.form; have hbb : Below wr.heap.size wr w5 := ext_trans (drewN_below _ _ 1) hb5; have OWN5 := Lib.hid (owns_ext hO.row hbb); have hl5 : OB < w5.heap.size := Nat.le_trans hzr hbb.size; have hA5 : Agree (fun b => b < OB + 1) wr w5 := .of_ext hbb
      refine hK.out _ _ (fun _ => KEEP.out _ hA5) (fun hHeld => ?_); replace hHeld := hHeld rfl
      clear hK K
      try simp only [Act.put, List.setIfInBounds_toArray, List.set_cons_zero, List.set_cons_succ]
      refine anyE_one 13 rfl (by kernel_rfl) (fun K hK => ?_)
      go_simp
      refine hK.out _ _ (fun _ => KEEP.out _ (hA5.alloc _)) (fun hHeld => ?_); replace hHeld := hHeld rfl
      clear hK K
      try simp only [Act.put, List.setIfInBounds_toArray, List.set_cons_zero, List.set_cons_succ]
      refine anyE_one 14 rfl (by kernel_rfl) (fun K hK => ?_)
      (refine step_append_lies _ (by rfl) _ _ _ (by rfl) (OB + 1) 38 i0 _ 1 24 Try.underlying22 hi hz0 hz1 hz2 rfl (by decide) rv ll.length vs (by rfl) (OWN5.out.alloc _) ⟨w5.heap.size, 0, none⟩ 1 1 [.slice a5 x.length c5] (by rfl) (by rfl) (World.news_of_block (cs := #[.slice a5 x.length c5]) (t := 38) (fr := (0, 0)) (heap_alloc_new w5 _)) (by simp [Value.oneCell']) (by decide) B1.out B2.out (by simp; omega) (w5.heap.size + 1) (by simp) ?_; intro g6 cp6 w6 hown6 hgrow6 hat6 hlt6; have R6 := (((R3.ext hbb).alloc (.cells #[.slice a5 x.length c5] 38))).grown hgrow6 HNE.out; have f6 := R6.free 1; have c6 := R6.cell (j := 1) rfl)
      refine hK.out _ _ (fun _ => KEEP.out _ ((hA5.alloc _).trans (.of_grown hgrow6 HOWN.out))) (fun hHeld => ?_); replace hHeld := hHeld rfl
      clear hK K
      try simp only [Act.put, List.setIfInBounds_toArray, List.set_cons_zero, List.set_cons_succ]
      refine anyE_take 15 (v := ?_) rfl (by kernel_rfl) (fun _ _ _ h => h) (by rfl) ?hy15 hHeld ?rest15
      case hy15 => (intro w hSw; (try dsimp only at hSw); go_simp; try with_reducible rfl)
      try simp only [Act.put, List.setIfInBounds_toArray, List.set_cons_zero, List.set_cons_succ]
      refine anyE_one 16 rfl (by kernel_rfl) (fun K hK => ?_)
      go_simp
      refine hK.out _ _ (fun h => by simp at h) (fun hHeld => ?_)
      clear hK K
      try simp only [Act.put, List.setIfInBounds_toArray, List.set_cons_zero, List.set_cons_succ]
      refine anyE_done (by kernel_rfl) ?_ _
      have hrs := hbb.size
      have HP := out_push (T := 24) (OB := OB) (B := OB + 1) (by omega) hzr R3 hO hbb (hx5.mono fun b hb => hb) (by first | exact ext_alloc _ _ | exact (ext_alloc _ _).drew) hown6 hgrow6 (hat6.imp id fun h => by omega)
      obtain ⟨P3, PO, PA, PB⟩ := HP
      have PB0 := PB w.heap.size (by omega)
      have P0 := R0.agreeN PA (by omega) (by omega)
      have P1 := R1.agreeN PA (by omega) (by omega)
      have P2 := R2.agreeN PA (by omega) (by omega)
      have hsz := PA.size
      rw [← HT.out] at PO
      clear PA PB
      go_wp2
      go_roundw
      case rel => exact ⟨k + 1, _, _, by omega, by go_num, hb.trans PB0, by omega, P0, P1, P2, P3, PO⟩
      case measure => simp [intOf]; omega
    · have HE := Lib.hid (show (addRows al bl).take k = addRows al bl from List.take_of_length_le (by rw [addRows_length HL.out]; omega))
      have hL := hO.lists
      rw [HE.out] at hL
      obtain ⟨a9, c9, rfl, _⟩ := hL.form
      obtain ⟨q30, q31⟩ := R3.two
      obtain ⟨q00, q01⟩ := R0.two
      obtain ⟨q20, q21⟩ := R2.two
      have f20 := R2.free 0
      have f21 := R2.free 1
      go_wp2
      refine bodyPost_ret (v := .tuple #[.agg #[.int .i64 ac, .slice a9 (addRows al bl).length c9], .int .i64 0]) (by simp [results, Try.results42, go_sem, q20, q21, f20, f21]) rfl ?_
      exact .mk (set2_below _ _ hb (by omega)) (.mk R.out ((hL.agree (set2_agree _ _ (by omega))).mono fun b hb => by omega))
end Go.Proofs.Ytijmjliijjkcbaa
