/- The program's transpose. -/
import Derived.Test.YtijmjliijjkcbaaMxTrA
import Derived.Deep.DeepCutAuto
namespace Go.Proofs.Ytijmjliijjkcbaa
set_option linter.unusedVariables false
open Go.RowKit
attribute [local go_sem ↓] Go.wp_at_zero Go.wp_at_succ

/-- The rows that the transpose fills: block g holds them, block OB the matrix. -/
structure TRel (OB g n base : Nat) (c0 : Value) (wr : World) (vs : List Value) (ll : List (List Int)) : Prop where
  own : OwnRows 38 3 base wr (.slice (some ⟨g, 0, none⟩) n n) vs ll
  len : ll.length = n
  ne : ∀ j, j < n → (nthV vs j).ownBlock ≠ some OB
  gne : g ≠ OB
  row : Row wr OB 24 [c0, .slice (some ⟨g, 0, none⟩) n n]
  glt : g < wr.heap.size
  bog : base ≤ OB ∧ base ≤ g
theorem TRel.ext {OB g n base : Nat} {c0 : Value} {wr w' : World} {vs : List Value} {ll : List (List Int)} (h : TRel OB g n base c0 wr vs ll) (hb : Below wr.heap.size wr w') : TRel OB g n base c0 w' vs ll :=
  ⟨h.own.ext hb, h.len, h.ne, h.gne, h.row.ext hb, Nat.lt_of_lt_of_le h.glt hb.size, h.bog⟩
theorem OwnRows.agreeR {S : Nat → Prop} {e er : TypeId} {base : Nat} {w w' : World} {v : Value} {vs : List Value} {ll : List (List Int)} (h : OwnRows e er base w v vs ll) (hw : Agree S w w') (h1 : ∀ k, v.ownBlock = some k → S k) (h2 : ∀ j, j < ll.length → ∀ k, (nthV vs j).ownBlock = some k → S k) : OwnRows e er base w' v vs ll :=
  ⟨owns_agree h.row hw h1, fun j hj => owns_agree (h.rows j hj) hw (h2 j hj), h.apart, h.out⟩
theorem owns_made {e er : TypeId} {base g n : Nat} {w : World} (h : w.ownsRow base e 1 (.slice (some ⟨g, 0, none⟩) n n) n (List.replicate n (.slice none 0 0))) : OwnRows e er base w (.slice (some ⟨g, 0, none⟩) n n) (List.replicate n (.slice none 0 0)) (List.replicate n []) := by
  have hv : ∀ j, j < n → nthV (List.replicate n (.slice none 0 0)) j = .slice none 0 0 := fun j hj => by simp [nthV, hj]
  have hl : ∀ j, j < n → nthL (List.replicate n []) j = [] := fun j hj => by simp [nthL, hj]
  refine ⟨by simpa using h, fun j hj => ?_, fun i j hi hj hij k hk => ?_, fun i hi k hk => ?_⟩
  · simp at hj; rw [hv j hj, hl j hj]; exact World.ownsRow_nil _ _ _ _
  · simp at hi; rw [hv i hi] at hk; simp [Value.ownBlock] at hk
  · simp at hi; rw [hv i hi] at hk; simp [Value.ownBlock] at hk
theorem TRel.app {OB g n base : Nat} {c0 : Value} {wr w6 : World} {vs : List Value} {ll : List (List Int)} {x g6 cp : Nat} {y : Int} (h : TRel OB g n base c0 wr vs ll) (hx : x < n)
    (hr : w6.ownsRow base 3 1 (.slice (some ⟨g6, 0, none⟩) ((nthL ll x).length + 1) cp) ((nthL ll x).length + 1) ((nthL ll x).map (Value.int .i64) ++ [.int .i64 y]))
    (hg : ∀ S : Nat → Prop, (∀ k, (nthV vs x).ownBlock = some k → ¬ S k) → Agree S wr w6) (hbel : Below base wr w6) (hv : (nthV vs x).ownBlock = some g6 ∨ wr.heap.size ≤ g6) :
    TRel OB g n base c0 (w6.setCell ⟨g, x, none⟩ (.slice (some ⟨g6, 0, none⟩) ((nthL ll x).length + 1) cp)) (vs.set x (.slice (some ⟨g6, 0, none⟩) ((nthL ll x).length + 1) cp)) (ll.set x (nthL ll x ++ [y])) ∧
    Below base wr (w6.setCell ⟨g, x, none⟩ (.slice (some ⟨g6, 0, none⟩) ((nthL ll x).length + 1) cp)) := by
  have hset := grownBy_setCell w6 g x (.slice (some ⟨g6, 0, none⟩) ((nthL ll x).length + 1) cp)
  have hxl : x < ll.length := by rw [h.len]; exact hx
  have hvl := h.own.len
  have hrowlt := h.row.lt
  refine ⟨⟨h.own.app h.len.symm hxl hr hg (fun k hk => by simp [Value.ownBlock] at hk; subst hk; exact hv), by simp [h.len], fun j hj => ?_, h.gne, ?_, ?_, h.bog⟩, ?_⟩
  · by_cases hjx : j = x
    · subst hjx
      have e : nthV (vs.set j (.slice (some ⟨g6, 0, none⟩) ((nthL ll j).length + 1) cp)) j = .slice (some ⟨g6, 0, none⟩) ((nthL ll j).length + 1) cp := by
        have := h.len
        simp [nthV, show j < vs.length by omega]
      rw [e]
      intro he
      simp [Value.ownBlock] at he
      subst he
      rcases hv with h1 | h1
      · exact h.ne j hj h1
      · omega
    · have e : nthV (vs.set x (.slice (some ⟨g6, 0, none⟩) ((nthL ll x).length + 1) cp)) j = nthV vs j := by simp [nthV, List.getElem?_set_ne (fun e : x = j => hjx e.symm)]
      rw [e]; exact h.ne j hj
  · refine (h.row.agree (S := fun b => b = OB) (hg _ fun k hk e => h.ne x hx (by rw [hk, e])) rfl).agree (S := fun b => b = OB) (.of_grown hset fun b hb e => ?_) rfl
    cases e; exact h.gne hb
  · have := hbel.size; have := h.glt; simp; omega
  · exact hbel.trans ((Below.refl _ _).grown hset (by have := hbel.size; have := h.glt; have := h.bog; omega) fun k hk => by cases hk; exact h.bog.2)

set_option maxRecDepth 100000 in
set_option maxHeartbeats 4000000 in
theorem transpose_calls {S : Nat → Prop} {w : World} {va : Value} {m : Mx} (ha : MatV S w va m) :
    Calls Try.prog 37 #[va] w (Post w (RetM w.heap.size (transS m))) := by
  obtain ⟨cols, ll⟩ := m
  obtain ⟨ra, rfl, la⟩ := ha
  obtain ⟨aa, acap, rfl, aad, al1, alm⟩ := la.form
  dsimp only at la al1 aad ⊢
  unfold maxLen at alm
  have ex : Below w.heap.size w ((w.alloc (.cells #[.int .i64 cols, .slice aa ll.length acap] 24)).alloc (.cells #[.int .i64 0, .slice none 0 0] 24)) := ext_alloc' (ext_alloc w _) _
  have r0 := (row_new w [.int .i64 cols, .slice aa ll.length acap] 24).alloc (.cells #[.int .i64 0, .slice none 0 0] 24)
  have r1 := row_new (w.alloc (.cells #[.int .i64 cols, .slice aa ll.length acap] 24)) [.int .i64 0, .slice none 0 0] 24
  simp only [World.size_alloc] at r1
  have KC := Lib.hid (check_calls (v := .agg #[.int .i64 cols, .slice aa ll.length acap]) (m := ⟨cols, ll⟩) ⟨_, rfl, la.ext ex⟩)
  obtain ⟨i0, hi, hz0, hz1, hz2⟩ := info_parts info_ints
  obtain ⟨i1, hj, hy0, hy1, hy2⟩ := info_parts info_int
  have HQA := Lib.hid (idx_one Try.underlying22 hi hz1 aad)
  go_enter Try.func37, Try.ntmps37
  go_wp2_with fail
  refine KC.out.mono ?_
  rintro _ w1 ⟨_, rfl, hb1, rfl⟩
  have hx1 := ext_trans ex hb1
  have R0 := r0.ext hb1
  have R1 := r1.ext hb1
  clear KC r0 r1 ex hb1
  obtain ⟨q10, q11⟩ := R1.two
  have f10 := R1.free 0
  have f11 := R1.free 1
  have hz1w := R1.lt
  by_cases h1 : ¬ checkM ⟨cols, ll⟩ = 0
  · have e1 : (checkM ⟨cols, ll⟩ != 0) = true := by simp [h1]
    have R := Lib.hid (transS_err h1)
    clear h1
    go_wp2
    refine bodyPost_ret (v := .tuple #[.agg #[.int .i64 0, .slice none 0 0], .int .i64 (checkM ⟨cols, ll⟩)]) (by simp [results, Try.results37, go_sem, q10, q11]) rfl ?_
    exact .mk (set2_below _ _ hx1 (by omega)) (.none R.out)
  have h1 := Classical.not_not.1 h1
  have e1 : (checkM ⟨cols, ll⟩ != 0) = false := by simp [h1]
  have HM := Lib.hid (checkM_zero.1 h1)
  have R := Lib.hid (transS_ok h1)
  clear h1 q10 q11 f10 f11
  have hls : ll.length ≤ 4096 := HM.out.r1
  have hc0 : 0 ≤ cols := HM.out.c0
  have hc1 : cols ≤ 4096 := HM.out.c1
  obtain ⟨n, hn⟩ : ∃ n : Nat, cols = (n : Int) := ⟨cols.toNat, by omega⟩
  subst hn
  have HTU : Hid (turned ⟨(n : Int), ll⟩ = ⟨ll.length, turnedRows n ll⟩) := Lib.hid (by unfold turned; simp)
  obtain ⟨q00, q01⟩ := R0.two
  have HB1 := Lib.hid (show i0.bytes * n ≤ 281474976710656 by rw [hz2]; omega)
  have HRP := Lib.hid (show (madeCells (Value.cells (.slice none 0 0)) (n * 1)).toList = List.replicate n (.slice none 0 0) from by rw [Nat.mul_one]; exact toList_madeCells_one _ _)
  have KEEP1 : Hid (∀ W', Agree (fun b => b < w1.heap.size) w1 W' → (fun w' : World => w'.cell? ⟨w.heap.size, 0, none⟩ = some (.int .i64 (n : Int)) ∧ w'.cell? ⟨w.heap.size, 1, none⟩ = some (.slice aa ll.length acap)) W') := Lib.hid (fun W' hW' => ⟨cell_agree q00 hW' (show _ < _ by dsimp only; omega), cell_agree q01 hW' (show _ < _ by dsimp only; omega)⟩)
  have hA0 : Agree (fun b => b < w1.heap.size) w1 w1 := .refl _ _
  go_upto_region 4 with fail
  go_cut [5] (fun s5 wx => ∃ OB g, s5 = .pointer (some ⟨OB, 0, none⟩) ∧ Below w1.heap.size w1 wx ∧ TRel OB g n w1.heap.size (.int .i64 ll.length) wx (List.replicate n (.slice none 0 0)) (List.replicate n []))
  case first =>
    as_aux_lemma =>
    refine region_E (fun w' : World => w'.cell? ⟨w.heap.size, 0, none⟩ = some (.int .i64 (n : Int)) ∧ w'.cell? ⟨w.heap.size, 1, none⟩ = some (.slice aa ll.length acap)) (fun i => i == 8) (by kernel_rfl) ?_ (fun hHeld => ?_)
    · exact KEEP1.out _ hA0.drew
    refine anyE_take 0 (v := ?_) rfl (by kernel_rfl) (fun _ _ _ h => h) (by rfl) ?hy0 hHeld ?rest0
    case hy0 => (intro w hSw; (try dsimp only at hSw); go_simp; try with_reducible rfl)
    try simp only [Act.put, List.setIfInBounds_toArray, List.set_cons_zero, List.set_cons_succ]
    refine anyE_take 1 (v := ?_) rfl (by kernel_rfl) (fun _ _ _ h => h) (by rfl) ?hy1 hHeld ?rest1
    case hy1 => (intro w hSw; (try dsimp only at hSw); go_simp; try with_reducible rfl)
    try simp only [Act.put, List.setIfInBounds_toArray, List.set_cons_zero, List.set_cons_succ]
    refine anyE_take 2 (v := ?_) rfl (by kernel_rfl) (fun _ _ _ h => h) (by rfl) ?hy2 hHeld ?rest2
    case hy2 => (intro w hSw; (try dsimp only at hSw); go_simp; try with_reducible rfl)
    try simp only [Act.put, List.setIfInBounds_toArray, List.set_cons_zero, List.set_cons_succ]
    refine anyE_take 3 (v := ?_) rfl (by kernel_rfl) (fun _ _ _ h => h) (by rfl) ?hy3 hHeld ?rest3
    case hy3 => (intro w hSw; (try dsimp only at hSw); go_simp; try with_reducible rfl)
    try simp only [Act.put, List.setIfInBounds_toArray, List.set_cons_zero, List.set_cons_succ]
    refine anyE_take 4 (v := ?_) rfl (by kernel_rfl) (fun _ _ _ h => h) (by rfl) ?hy4 hHeld ?rest4
    case hy4 => (intro w hSw; (try dsimp only at hSw); go_simp; try with_reducible rfl)
    try simp only [Act.put, List.setIfInBounds_toArray, List.set_cons_zero, List.set_cons_succ]
    refine anyE_two 5 7 rfl rfl (by kernel_rfl) (fun K hK => ?_) (fun K hK => ?_)
    · refine step_make_full (by rfl) _ _ _ (by rfl) w1.heap.size 38 i0 (.slice none 0 0) 1 Try.underlying22 hi hz0 hz1 _ _ n (by rfl) (by rfl) HB1.out (by unfold maxLen; omega) (by simp) ?_; intro w3 hown3 hgrow3
      have hA3 : Agree (fun b => b < w1.heap.size) w1 w3 := hA0.drew.trans (.of_grown hgrow3 (by simp))
      refine hK.out _ _ (fun _ => KEEP1.out _ hA3) (fun hHeld => ?_); replace hHeld := hHeld rfl
      clear hK K
      try simp only [Act.put, List.setIfInBounds_toArray, List.set_cons_zero, List.set_cons_succ]
      refine anyE_take 6 (v := ?_) rfl (by kernel_rfl) (fun _ _ _ h => h) (by rfl) ?hy6 hHeld ?rest6
      case hy6 => (intro w hSw; (try dsimp only at hSw); go_simp; try with_reducible rfl)
      try simp only [Act.put, List.setIfInBounds_toArray, List.set_cons_zero, List.set_cons_succ]
      refine anyE_one 7 rfl (by kernel_rfl) (fun K hK => ?_)
      go_simp
      refine hK.out _ _ (fun _ => KEEP1.out _ (hA3.alloc _)) (fun hHeld => ?_); replace hHeld := hHeld rfl
      clear hK K
      try simp only [Act.put, List.setIfInBounds_toArray, List.set_cons_zero, List.set_cons_succ]
      refine anyE_one 8 rfl (by kernel_rfl) (fun K hK => ?_)
      go_simp
      refine hK.out _ _ (fun h => by simp at h) (fun hHeld => ?_)
      clear hK K
      try simp only [Act.put, List.setIfInBounds_toArray, List.set_cons_zero, List.set_cons_succ]
      refine anyE_done (by kernel_rfl) ?_ _
      go_wp2_with fail
      go_meet
      have hsz3 : w1.heap.size < w3.heap.size := (hown3.lt _ rfl).2
      rw [HRP.out] at hown3
      refine ⟨w3.heap.size, w1.heap.size, rfl, ?_, ⟨(owns_made hown3).ext (ext_alloc w3 _), by simp, fun j hj => by simp [nthV, hj, Value.ownBlock], by omega, row_new w3 [.int .i64 ll.length, .slice (some ⟨w1.heap.size, 0, none⟩) n n] _, by simp; omega, by omega, Nat.le_refl _⟩⟩
      exact ((Below.refl _ _).drew.grown hgrow3 (by simp) (fun k hk => by cases hk)).alloc (by omega) _
    · go_simp
      have hA2 : Agree (fun b => b < w1.heap.size) w1 (w1.alloc (.cells #[.int .i64 0, .slice none 0 0] 24)).drew := (hA0.alloc _).drew
      refine hK.out _ _ (fun _ => KEEP1.out _ hA2) (fun hHeld => ?_); replace hHeld := hHeld rfl
      clear hK K
      try simp only [Act.put, List.setIfInBounds_toArray, List.set_cons_zero, List.set_cons_succ]
      refine anyE_one 5 rfl (by kernel_rfl) (fun K hK => ?_)
      refine step_make_full (by rfl) _ _ _ (by rfl) w1.heap.size 38 i0 (.slice none 0 0) 1 Try.underlying22 hi hz0 hz1 _ _ n (by rfl) (by rfl) HB1.out (by unfold maxLen; omega) (by simp) ?_; intro w3 hown3 hgrow3
      have hA3 : Agree (fun b => b < w1.heap.size) w1 w3 := hA2.trans (.of_grown hgrow3 (by simp))
      refine hK.out _ _ (fun _ => KEEP1.out _ hA3) (fun hHeld => ?_); replace hHeld := hHeld rfl
      clear hK K
      try simp only [Act.put, List.setIfInBounds_toArray, List.set_cons_zero, List.set_cons_succ]
      refine anyE_take 6 (v := ?_) rfl (by kernel_rfl) (fun _ _ _ h => h) (by rfl) ?hy6b hHeld ?rest6b
      case hy6b => (intro w hSw; (try dsimp only at hSw); go_simp; try with_reducible rfl)
      try simp only [Act.put, List.setIfInBounds_toArray, List.set_cons_zero, List.set_cons_succ]
      have hR3 := ((row_new w1 [.int .i64 0, .slice none 0 0] 24).agree (S := fun _ => True) ((Agree.refl _ _).drew) trivial).grown hgrow3 (by simp)
      have b0 := hR3.cell (j := 0) rfl
      have b1 := hR3.cell (j := 1) rfl
      have g0 := hR3.free 0
      have g1 := hR3.free 1
      refine anyE_one 8 rfl (by kernel_rfl) (fun K hK => ?_)
      go_simp
      refine hK.out _ _ (fun h => by simp at h) (fun hHeld => ?_)
      clear hK K
      try simp only [Act.put, List.setIfInBounds_toArray, List.set_cons_zero, List.set_cons_succ]
      refine anyE_done (by kernel_rfl) ?_ _
      go_wp2_with fail
      go_meet
      have hlt3 := (hown3.lt _ rfl).2
      rw [HRP.out] at hown3
      simp at hlt3
      refine ⟨w1.heap.size, w1.heap.size + 1, rfl, ?_, ⟨?_, by simp, fun j hj => by simp [nthV, hj, Value.ownBlock], by omega, ?_, by simp; omega, by omega, by omega⟩⟩
      · exact (((((Below.refl _ _).alloc (Nat.le_refl _) _).drew).grown hgrow3 (by simp) (fun k hk => by cases hk)).setCell (by simp) _).setCell (by simp) _
      · refine (owns_made (by simpa using hown3)).agreeR (S := fun b => b ≠ w1.heap.size) ((Agree.of_grown (grownBy_setCell w3 w1.heap.size 0 _) fun b hb e => by cases e; exact hb rfl).trans (.of_grown (grownBy_setCell _ w1.heap.size 1 _) fun b hb e => by cases e; exact hb rfl)) (fun k hk => by simp [Value.ownBlock] at hk; omega) (fun j hj k hk => by simp at hj; simp [nthV, hj, Value.ownBlock] at hk)
      · simpa using (hR3.set 0 (.int .i64 ll.length)).set 1 (.slice (some ⟨w1.heap.size + 1, 0, none⟩) n n)
  case rest =>
    as_aux_lemma =>
    obtain ⟨OB, g, rfl, hb2, hT⟩ := hcut
    obtain ⟨w2, rfl⟩ : ∃ w2 : World, w2 = wc := ⟨_, rfl⟩
    have hx2 := ext_trans hx1 hb2
    have R0 := R0.ext hb2
    have R1 := R1.ext hb2
    rw [← trLL_zero ll n] at hT
    obtain ⟨q00, q01⟩ := R0.two
    obtain ⟨B, hB⟩ : ∃ B, B = w1.heap.size := ⟨_, rfl⟩
    rw [← hB] at hT hz1w
    have hBw : B ≤ w2.heap.size := by rw [hB]; exact hb2.size
    clear hb2 hB HB1 HRP KEEP1 hA0
    go_wp2
    go_loopw [6, 7, 9, 26, 33] (fun _ _ _ i _ wr => ∃ (k : Nat) (vs : List Value), k ≤ ll.length ∧ i = .int .i64 k ∧ Below w.heap.size w wr ∧ Row wr w.heap.size 24 [.int .i64 n, .slice aa ll.length acap] ∧ Row wr (w.heap.size + 1) 24 [.int .i64 0, .slice none 0 0] ∧ B ≤ wr.heap.size ∧ TRel OB g n B (.int .i64 ll.length) wr vs (trLL ll k 0 n)) (fun _ _ _ i _ _ => ll.length - (intOf i).toNat)
    case atStart => exact ⟨0, _, Nat.zero_le _, rfl, hx2, R0, R1, hBw, hT⟩
    case round =>
      obtain ⟨k, vs, hk, rfl, hb, R0, R1, hBr, hT⟩ := hrel
      obtain ⟨wo, hwo⟩ : ∃ wo : World, wo = wr := ⟨_, rfl⟩
      rw [← hwo] at hb R0 R1 hBr hT ⊢
      clear hwo
      by_cases hlt : k < ll.length
      · have q := HQA.out k hlt
        obtain ⟨u, cu0, iu⟩ := la.at (.refl _ _) hlt
        have cu := cell_ext cu0 hb
        clear cu0
        have hrl := HM.out.rok.nth_len k
        have HRO := Lib.hid (HM.out.rok.nth_ord k)
        have HRN := Lib.hid (HM.out.rok.nth_rng k)
        have HLN := Lib.hid (trLL_next (n := n) hlt)
        obtain ⟨row, hrow⟩ : ∃ row, row = nthL ll k := ⟨_, rfl⟩
        dsimp only at hrl HRO HRN
        rw [← hrow] at iu hrl HRO HRN HLN
        have HROW := Lib.hid hrow
        clear hrow
        obtain ⟨au, cau, rfl, adu, lu1, lu2⟩ := iu.form
        have HQU := Lib.hid (idx_one Try.underlying38 hj hy1 adu)
        obtain ⟨_, _, eu, _, _, _, huc, _⟩ := id iu
        simp only [Value.slice.injEq, true_and] at eu
        obtain ⟨rfl, rfl⟩ := eu
        have HUC := Lib.hid huc
        clear huc
        go_wp2
        go_loopw [9, 33] (fun _ j wi => ∃ (l : Nat) (vs : List Value), l ≤ row.length ∧ j = .int .i64 l ∧ Below B wo wi ∧ TRel OB g n B (.int .i64 ll.length) wi vs (trLL ll k l n)) (fun _ j _ => row.length - (intOf j).toNat)
        case atStart => exact ⟨0, vs, Nat.zero_le _, rfl, .refl _ _, hT⟩
        case round =>
          obtain ⟨l, vs, hl, rfl, hbi, hT⟩ := hrel
          by_cases hll : l < row.length
          · have qu := HQU.out l hll
            have hbw := hb.trans (hbi.mono (show w.heap.size ≤ B by omega))
            have cux := cells_at adu hbw HUC.out l hll
            have hxr := HRN.out _ (nth_mem hll)
            obtain ⟨c, hcx⟩ : ∃ c : Nat, nth row l = (c : Int) := ⟨(nth row l).toNat, by omega⟩
            rw [hcx] at cux hxr
            have hcn : c < n := by omega
            have HST := Lib.hid (trLL_set (R := ll) (k := k) (l := l) (n := n) (x := c) (by rw [← HROW.out]; exact HRO.out) (by rw [← HROW.out]; exact hll) (by rw [← HROW.out]; exact hcx) hcn)
            have HCL := Lib.hid (nthL_trLL (R := ll) (k := k) (l := l) hcn)
            have hlc : (nthL (trLL ll k l n) c).length ≤ 5000 := by
              rw [HCL.out, List.length_append]
              have := colTo_length ll k (c : Int)
              split <;> simp <;> omega
            clear hcx hxr HCL
            obtain ⟨LL, hLL⟩ : ∃ LL, LL = trLL ll k l n := ⟨_, rfl⟩
            rw [← hLL] at hT HST hlc
            clear hLL
            have qg : ∀ W : World, (Instr.indexAt 22 (.slice (some ⟨g, 0, none⟩) n n) (.int .i64 (c : Int))).run Try.prog W = .ok (.pointer (some ⟨g, c, none⟩)) W := by
              have := idx_one (S := fun _ => True) (n := n) (cap := n) Try.underlying22 hi hz1 (.inr ⟨g, 0, rfl, hT.glt, trivial⟩) c hcn
              simpa [adr] using this
            obtain ⟨t0, t1⟩ := hT.row.two
            have cg := hT.own.cell hT.len.symm (show c < LL.length by rw [hT.len]; exact hcn)
            have hov := hT.own.rows c (by rw [hT.len]; exact hcn)
            have HNO := Lib.hid (hT.ne c hcn)
            have HNG := Lib.hid (fun (k' : Nat) (hk' : (nthV vs c).ownBlock = some k') => hT.own.out c (by rw [hT.len]; exact hcn) k' hk')
            obtain ⟨v, hv⟩ : ∃ v, v = nthV vs c := ⟨_, rfl⟩
            rw [← hv] at cg hov HNO HNG
            have HV := Lib.hid hv
            clear hv
            have HOV := Lib.hid hov
            have HTT := Lib.hid hT
            have hgw := hT.glt
            have hOBw := hT.row.lt
            clear hov hT
            have hBwr : B ≤ wr.heap.size := Nat.le_trans hBr hbi.size
            have KEEP2 : Hid (∀ W', Agree (fun b => b = OB ∨ b = g) wr W' → (fun w' : World => w'.cell? ⟨OB, 1, none⟩ = some (.slice (some ⟨g, 0, none⟩) n n) ∧ w'.cell? ⟨g, c, none⟩ = some v) W') := Lib.hid (fun W' hW' => ⟨cell_agree t1 hW' (.inl rfl), cell_agree cg hW' (.inr rfl)⟩)
            have hA0 : Agree (fun b => b = OB ∨ b = g) wr wr := .refl _ _
            have hrefl := Below.refl B wr
            have B1 := Lib.hid (show (nthL LL c).length + 1 ≤ maxLen by unfold maxLen; omega)
            have B2 := Lib.hid (show ((nthL LL c).length + 1) * 8 ≤ 140737488355328 by omega)
            go_wp2
            refine region_E (fun w' : World => w'.cell? ⟨OB, 1, none⟩ = some (.slice (some ⟨g, 0, none⟩) n n) ∧ w'.cell? ⟨g, c, none⟩ = some v) (fun i => i == 12) (by kernel_rfl) ?_ (fun hHeld => ?_)
            · exact KEEP2.out _ hA0.drew
            refine anyE_take 0 (v := ?_) rfl (by kernel_rfl) (fun _ _ _ h => h) (by rfl) ?hy0z hHeld ?rest0z
            case hy0z => (intro w hSw; (try dsimp only at hSw); go_simp; try with_reducible rfl)
            try simp only [Act.put, List.setIfInBounds_toArray, List.set_cons_zero, List.set_cons_succ]
            refine anyE_take 1 (v := ?_) rfl (by kernel_rfl) (fun _ _ _ h => h) (by rfl) ?hy1z hHeld ?rest1z
            case hy1z => (intro w hSw; (try dsimp only at hSw); go_simp; try with_reducible rfl)
            try simp only [Act.put, List.setIfInBounds_toArray, List.set_cons_zero, List.set_cons_succ]
            refine anyE_take 2 (v := ?_) rfl (by kernel_rfl) (fun _ _ _ h => h) (by rfl) ?hy2z hHeld ?rest2z
            case hy2z => (intro w hSw; (try dsimp only at hSw); go_simp; try with_reducible rfl)
            try simp only [Act.put, List.setIfInBounds_toArray, List.set_cons_zero, List.set_cons_succ]
            refine anyE_take 3 (v := ?_) rfl (by kernel_rfl) (fun _ _ _ h => h) (by rfl) ?hy3z hHeld ?rest3z
            case hy3z => (intro w hSw; (try dsimp only at hSw); go_simp; try with_reducible rfl)
            try simp only [Act.put, List.setIfInBounds_toArray, List.set_cons_zero, List.set_cons_succ]
            refine anyE_take 4 (v := ?_) rfl (by kernel_rfl) (fun _ _ _ h => h) (by rfl) ?hy4z hHeld ?rest4z
            case hy4z => (intro w hSw; (try dsimp only at hSw); go_simp; try with_reducible rfl)
            try simp only [Act.put, List.setIfInBounds_toArray, List.set_cons_zero, List.set_cons_succ]
            refine anyE_take 5 (v := ?_) rfl (by kernel_rfl) (fun _ _ _ h => h) (by rfl) ?hy5z hHeld ?rest5z
            case hy5z => (intro w hSw; (try dsimp only at hSw); go_simp; try with_reducible rfl)
            try simp only [Act.put, List.setIfInBounds_toArray, List.set_cons_zero, List.set_cons_succ]
            refine anyE_take 6 (v := ?_) rfl (by kernel_rfl) (fun _ _ _ h => h) (by rfl) ?hy6z hHeld ?rest6z
            case hy6z => (intro w hSw; (try dsimp only at hSw); go_simp; try with_reducible rfl)
            try simp only [Act.put, List.setIfInBounds_toArray, List.set_cons_zero, List.set_cons_succ]
            refine anyE_take 7 (v := ?_) rfl (by kernel_rfl) (fun _ _ _ h => h) (by rfl) ?hy7z hHeld ?rest7z
            case hy7z => (intro w hSw; (try dsimp only at hSw); go_simp; try with_reducible rfl)
            try simp only [Act.put, List.setIfInBounds_toArray, List.set_cons_zero, List.set_cons_succ]
            refine anyE_take 8 (v := ?_) rfl (by kernel_rfl) (fun _ _ _ h => h) (by rfl) ?hy8z hHeld ?rest8z
            case hy8z => (intro w hSw; (try dsimp only at hSw); go_simp; try with_reducible rfl)
            try simp only [Act.put, List.setIfInBounds_toArray, List.set_cons_zero, List.set_cons_succ]
            refine anyE_one 9 rfl (by kernel_rfl) (fun K hK => ?_)
            go_simp
            refine hK.out _ _ (fun _ => KEEP2.out _ ((hA0.alloc _).drew)) (fun hHeld => ?_); replace hHeld := hHeld rfl
            clear hK K
            try simp only [Act.put, List.setIfInBounds_toArray, List.set_cons_zero, List.set_cons_succ]
            refine anyE_one 10 rfl (by kernel_rfl) (fun K hK => ?_)
            (refine step_append_lies _ (by rfl) _ _ _ (by rfl) B 3 i1 _ 1 8 Try.underlying38 hj hy0 hy1 hy2 rfl (by decide) v (nthL LL c).length ((nthL LL c).map (Value.int .i64)) (by rfl) (HOV.out.alloc _).drew ⟨wr.heap.size, 0, none⟩ 1 1 [.int .i64 (k : Int)] (by rfl) (by rfl) (World.news_of_block (cs := #[.int .i64 (k : Int)]) (t := 3) (fr := (0, 0)) (heap_alloc_new wr _)) (by simp [Value.oneCell']) (by decide) B1.out B2.out (by simp; omega) (wr.heap.size + 1) (by simp) ?_; intro g6 cp6 w6 hown6 hgrow6 hat6 hlt6; have hA6 : Agree (fun b => b = OB ∨ b = g) wr w6 := ((hA0.alloc _).drew).trans (.of_grown hgrow6 fun b hb e => by rcases hb with rfl | rfl; exact HNO.out e; exact HNG.out _ e rfl); have c6 := cell_agree cg hA6 (.inr rfl); have f6 : w6.frozen? ⟨g, c, none⟩ = false := by have h0 := HTT.out.own.row; rw [HTT.out.len] at h0; have h1 := h0.frozenAt (g := g) (cap := n) c; rw [World.frozen?_of_block (hA6.block g (.inr rfl) hgw)]; exact h1)
            refine hK.out _ _ (fun _ => KEEP2.out _ hA6) (fun hHeld => ?_); replace hHeld := hHeld rfl
            clear hK K
            try simp only [Act.put, List.setIfInBounds_toArray, List.set_cons_zero, List.set_cons_succ]
            refine anyE_take 11 (v := ?_) rfl (by kernel_rfl) (fun _ _ _ h => h) (by rfl) ?hy11z hHeld ?rest11z
            case hy11z => (intro w hSw; (try dsimp only at hSw); go_simp; try with_reducible rfl)
            try simp only [Act.put, List.setIfInBounds_toArray, List.set_cons_zero, List.set_cons_succ]
            refine anyE_one 12 rfl (by kernel_rfl) (fun K hK => ?_)
            go_simp
            refine hK.out _ _ (fun h => by simp at h) (fun hHeld => ?_)
            clear hK K
            try simp only [Act.put, List.setIfInBounds_toArray, List.set_cons_zero, List.set_cons_succ]
            refine anyE_done (by kernel_rfl) ?_ _
            have hAll : ∀ S : Nat → Prop, (∀ k', v.ownBlock = some k' → ¬ S k') → Agree S wr w6 := fun S hS => ((Agree.refl S wr).drew.alloc _).trans (.of_grown hgrow6 fun b hb e => hS b e hb)
            have hBel : Below B wr w6 := Below.grown ((Below.refl B wr).drew.alloc hBwr _) hgrow6 (by simp; omega) (fun k' hk' => (HOV.out.lt k' hk').1)
            rw [HV.out] at hAll hat6
            have HP := HTT.out.app (x := c) (y := (k : Int)) hcn hown6 hAll hBel (hat6.imp id fun h => by omega)
            obtain ⟨PT, PB⟩ := HP
            rw [HST.out] at PT
            have hb7 := hbi.trans PB
            clear hAll hBel PB hown6 hgrow6 hat6 HNO HNG
            go_wp2
            go_roundw
            case rel => exact ⟨l + 1, _, by omega, by go_num, hb7, PT⟩
            case measure => simp [intOf]; omega
          · obtain rfl : l = row.length := by omega
            have hT2 := hT
            rw [show row.length = (nthL ll k).length from by rw [HROW.out], trLL_next hlt] at hT2
            have hbw := hb.trans (hbi.mono (show w.heap.size ≤ B by omega))
            have R0' := R0.agree (S := fun b => b < B) (.of_below hbi fun b hb _ => hb) (show _ < _ by omega)
            have R1' := R1.agree (S := fun b => b < B) (.of_below hbi fun b hb _ => hb) (show _ < _ by omega)
            have hbz : B ≤ wr.heap.size := Nat.le_trans hBr hbi.size
            clear hT
            go_wp2
            go_roundw
            case rel => exact ⟨k + 1, _, by omega, by go_num, hbw, R0', R1', hbz, hT2⟩
            case measure => simp [intOf]; omega
      · obtain rfl : k = ll.length := by omega
        rw [trLL_end] at hT
        have hL := hT.own.lists (fun l hl x hx => by
          obtain ⟨c, hc, rfl⟩ := List.getElem_of_mem hl
          rw [turnedRows_length] at hc
          rw [← nthL_eq (by rw [turnedRows_length]; exact hc), nthL_turned hc] at hx
          exact wf_col ll _ (by omega) x hx)
        obtain ⟨t0, t1⟩ := hT.row.two
        obtain ⟨q10, q11⟩ := R1.two
        have f10 := R1.free 0
        have f11 := R1.free 1
        have hlen := hT.len
        rw [turnedRows_length] at hlen
        clear hT hlen
        go_wp2
        refine bodyPost_ret (v := .tuple #[.agg #[.int .i64 ll.length, .slice (some ⟨g, 0, none⟩) n n], .int .i64 0]) (by simp [results, Try.results37, go_sem, q10, q11]) rfl ?_
        exact .mk (set2_below _ _ hb (by omega)) (.mk (R.out.trans (by rw [HTU.out])) ((hL.agree (set2_agree _ _ (by omega))).mono fun b hb => by omega))
end Go.Proofs.Ytijmjliijjkcbaa
