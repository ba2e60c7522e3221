/- The program's copied. -/
import Derived.Test.YtifkkajgcekafaaDoorExArgs2
import Derived.Test.YtifkkajgcekafaaDoorExNeg
namespace Go.Proofs.YtifkkajgcekafaaDoor
set_option linter.unusedVariables false
open Go.RowKit
attribute [local go_sem ↓] Go.wp_at_zero Go.wp_at_succ


def CopyB (value : Int) (e : Ex) : Prop := ∀ (S : Nat → Prop) (W : World) (Bv : Nat) (v : Value), W.cell? ⟨Bv, 0, none⟩ = some (.int .i64 value) → ExprV S W e v → Calls Tryd.prog 58 #[v, .func (.func 69) #[] #[.pointer (some ⟨Bv, 0, none⟩)]] W (Post W fun W' r => ExprV (fun b => W.heap.size ≤ b) W' (boundE value e) r)

theorem boundL_length (value : Int) (l : List Ex) : (boundL value l).length = l.length := by rw [boundL_map, List.length_map]
def bind1V (value o n : Int) (a : Option Addr) (l c : Nat) : Value := if o = 1 then (if n = 0 then .agg #[.int .i64 0, .int .i64 value, .slice none 0 0] else .agg #[.int .i64 o, .int .i64 (n - 1), .slice a l c]) else .agg #[.int .i64 o, .int .i64 n, .slice a l c]
set_option maxRecDepth 100000 in
theorem bind1_calls (W : World) (Bv : Nat) (value o n : Int) (a : Option Addr) (l c : Nat) (wn : WF n) (hn : o = 1 → 0 ≤ n) (hcv : W.cell? ⟨Bv, 0, none⟩ = some (.int .i64 value)) : Calls Tryd.prog 69 #[.agg #[.int .i64 o, .int .i64 n, .slice a l c], .pointer (some ⟨Bv, 0, none⟩)] W
    (Post W fun _ r => r = bind1V value o n a l c) := by
  have hbv := World.block_lt_of_cell? W _ hcv
  by_cases h1 : o = 1
  · have hn0 := hn h1
    clear hn
    subst h1
    by_cases h2 : n = 0
    · have d2 : (n == 0) = true := beq_iff_eq.2 h2
      have H2 := Lib.hid h2
      clear h2
      have ex := ext_alloc' (ext_alloc W (.cells #[.int .i64 1, .int .i64 n, .slice a l c] 24)) (.cells #[.int .i64 0, .int .i64 0, .slice none 0 0] 24)
      have rr := row_new (W.alloc (.cells #[.int .i64 1, .int .i64 n, .slice a l c] 24)) [.int .i64 0, .int .i64 0, .slice none 0 0] 24
      rw [World.size_alloc] at rr
      go_enter Tryd.func69, Tryd.ntmps69
      go_wp2_with fail
      refine (number_calls _ value).mono ?_
      rintro _ w1 ⟨_, rfl, hb1, rfl⟩
      have r1 := rr.ext hb1
      obtain ⟨c0, c1, c2⟩ := r1.three
      have f0 := r1.free 0
      have f1 := r1.free 1
      have f2 := r1.free 2
      go_wp2
      refine bodyPost_ret (v := .agg #[.int .i64 0, .int .i64 value, .slice none 0 0]) (by simp [results, Tryd.results69, go_sem, c0, c1, c2]) rfl ?_
      exact .mk (set3_below _ _ _ (ext_trans ex hb1) (by omega)) (by unfold bind1V; rw [if_pos rfl, if_pos H2.out])
    · have d2 : (n == 0) = false := beq_eq_false_iff_ne.2 h2
      have H2 := Lib.hid h2
      unfold WF at wn
      have hn1 : 1 ≤ n := by omega
      have ex := ext_alloc' (ext_alloc W (.cells #[.int .i64 1, .int .i64 (n - 1), .slice a l c] 24)) (.cells #[.int .i64 1, .int .i64 (n - 1), .slice a l c] 24)
      clear h2
      go_enter Tryd.func69, Tryd.ntmps69
      go_wp2
      refine bodyPost_ret (v := .agg #[.int .i64 1, .int .i64 (n - 1), .slice a l c]) (by simp [results, Tryd.results69, go_sem]) rfl ?_
      exact .mk ex (by unfold bind1V; rw [if_pos rfl, if_neg H2.out])
  · have d1 : (o != 1) = true := by simpa using h1
    have H1 := Lib.hid h1
    have ex := ext_alloc' (ext_alloc W (.cells #[.int .i64 o, .int .i64 n, .slice a l c] 24)) (.cells #[.int .i64 o, .int .i64 n, .slice a l c] 24)
    clear h1 hn
    go_enter Tryd.func69, Tryd.ntmps69
    go_wp2
    refine bodyPost_ret (v := .agg #[.int .i64 o, .int .i64 n, .slice a l c]) (by simp [results, Tryd.results69, go_sem]) rfl ?_
    exact .mk ex (by unfold bind1V; rw [if_neg H1.out])

set_option maxRecDepth 100000 in
set_option maxHeartbeats 8000000 in
theorem copybind_node (value : Int) (op num : Int) (xs : List Ex) (hlen : xs.length ≤ 1000) (hwf : WF value) (hop : op = 1 → xs = [] ∧ 0 ≤ num) (ih : ∀ x ∈ xs, CopyB value x) : CopyB value (.node op num xs) := by
  intro S W Bv v hcv hv
  obtain ⟨a, cap, rfl, hl, hm, had, wo, wn, hel⟩ := hv.els
  unfold maxLen at hm
  obtain ⟨i0, hi, hz0, hz1, hz2⟩ := info_parts info_expr3
  have hel0 := Lib.hid hel
  clear hel
  have hbv := World.block_lt_of_cell? W _ hcv
  have HOP := Lib.hid hop
  clear hop
  go_enter Tryd.func58, Tryd.ntmps58
  go_wp2
  go_loopw [13] (fun i wr => ∃ k : Nat, k ≤ xs.length ∧ i = .int .i64 k ∧ Below W.heap.size W wr ∧ ∃ (v' : Value) (us : List Tri) (T : Nat → Prop), Row wr W.heap.size 24 [.int .i64 op, .int .i64 num, v'] ∧ Row wr (W.heap.size + 1) 24 [.int .i64 0, .int .i64 0, .slice none 0 0] ∧
      Args3 T (W.heap.size + 2) wr v' us (boundL value (xs.take k)) ∧ (∀ b, T b → W.heap.size + 2 ≤ b)) (fun i _ => xs.length - (intOf i).toNat)
  case atStart =>
    refine ⟨0, by omega, rfl, ext_alloc' (ext_alloc W _) _, .slice none 0 0, [], fun _ => False, (row_new W [.int .i64 op, .int .i64 num, .slice none 0 0] _).alloc _, ?_, Args3.nil _ _, fun b h => h.elim⟩
    have := row_new (W.alloc (.cells #[.int .i64 op, .int .i64 num, .slice none 0 0] 24)) [.int .i64 0, .int .i64 0, .slice none 0 0] 24
    rwa [World.size_alloc] at this
  case round =>
    obtain ⟨k, hk, rfl, hb, v', us, T, hR, hR1, hA, hT⟩ := hrel
    by_cases hlt : k < xs.length
    · obtain ⟨b, off, a', c', hel⟩ := hel0.out k hlt
      have hel1 := hel.ext hb
      have q := hel1.idx
      have c0 := hel1.c0
      have c1 := hel1.c1
      have c2 := hel1.c2
      go_wp2_with fail
      have hlR := hR.lt
      have hlR1 := hR1.lt
      obtain ⟨w1, hw1⟩ : ∃ w1, w1 = wr.alloc (.cells #[.int .i64 (nthE xs k).op, .int .i64 (nthE xs k).num, .slice a' (nthE xs k).args.length c'] 24) := ⟨_, rfl⟩
      rw [← hw1]
      have hb1 : Below wr.heap.size wr w1 := by rw [hw1]; exact ext_alloc wr _
      have hX1 : Row w1 wr.heap.size 24 [.int .i64 (nthE xs k).op, .int .i64 (nthE xs k).num, .slice a' (nthE xs k).args.length c'] := by rw [hw1]; exact row_new wr _ _
      clear hw1 q c0 c1 c2
      have hlX := hX1.lt
      have hR2 := hR.ext hb1
      have hA2 := (hA.bound).ext hb1
      obtain ⟨x0, x1, x2⟩ := hX1.three
      have ce := hR2.cell (j := 2) rfl
      have hex := hel1.ex.ext hb1
      have HK := Lib.hid (show (boundL value (xs.take k)).length = (xs.take k).length from boundL_length value _)
      have HIH := Lib.hid (ih _ (nthE_mem hlt))
      have IK := Lib.hid (fun W' (hW' : Below w1.heap.size w1 W') => HIH.out _ W' Bv _ (cell_ext hcv (ext_trans (ext_trans hb hb1) hW')) (hex.ext hW'))
      have hrefl := Below.refl w1.heap.size w1
      have hne : wr.heap.size ≠ W.heap.size := by omega
      have hkl : (boundL value (xs.take k)).length ≤ 1000 := by rw [HK.out, List.length_take]; omega
      have B1 := Lib.hid (show (boundL value (xs.take k)).length + 1 ≤ maxLen by unfold maxLen; omega)
      have B2 := Lib.hid (show ((boundL value (xs.take k)).length + 1) * 40 ≤ 140737488355328 by omega)
      have hbs := hb.size
      have HNE := Lib.hid (show v'.ownBlock ≠ some W.heap.size from fun h => by have := (hA.own_lt _ h).1; omega)
      go_region_law
        (first
          | (go_simp; go_at_call 58; refine (IK.out _ (by first | assumption | (apply Below.drew; assumption))).mono ?_; rintro _ w5 ⟨v5, rfl, hb5, hx5⟩; obtain ⟨a5, c5, rfl, wo5, wn5, _⟩ := hx5.parts; have hbb : Below w1.heap.size w1 w5 := ext_trans (by first | assumption | (apply Below.drew; assumption)) hb5; have ce5 := cell_ext ce hbb; have OWN5 := Lib.hid (hA2.2.1 |> fun h => owns_ext h hbb); have hl5 : W.heap.size < w5.heap.size := Nat.lt_of_lt_of_le hR2.lt hbb.size)
          | (refine step_append_lies _ (by rfl) _ _ _ (by rfl) (W.heap.size + 2) 24 i0 _ 3 40 Tryd.underlying22 hi hz0 hz1 hz2 rfl (by decide) v' (boundL value (xs.take k)).length (flat us) (by rfl) (by first | exact OWN5.out.alloc _ | exact (OWN5.out.alloc _).drew) ⟨w5.heap.size, 0, none⟩ 1 1 [.int .i64 (boundE value (nthE xs k)).op, .int .i64 (boundE value (nthE xs k)).num, .slice a5 (boundE value (nthE xs k)).args.length c5] (by rfl) (by rfl)
              (World.news_of_block (cs := #[.int .i64 (boundE value (nthE xs k)).op, .int .i64 (boundE value (nthE xs k)).num, .slice a5 (boundE value (nthE xs k)).args.length c5]) (t := 24) (fr := (0, 0)) (heap_alloc_new w5 _)) (by simp [Value.oneCell']) (by decide) B1.out B2.out (by simp; omega) (w5.heap.size + 1) (by simp) ?_; intro g6 cp6 w6 hown6 hgrow6 hat6 hlt6; have hR6 := Row.grown ((hR2.ext hbb).alloc (.cells #[.int .i64 (boundE value (nthE xs k)).op, .int .i64 (boundE value (nthE xs k)).num, .slice a5 (boundE value (nthE xs k)).args.length c5] 24)) hgrow6 HNE.out; have ce6 := hR6.cell (j := 2) rfl; have fr6 := hR6.free 2))
      all_goals
        have HRA := round_args (W := W) (base := W.heap.size + 2) (Bx := W.heap.size) (Nat.le_refl _) (by omega) (by have := hR1.lt; omega) hb hb1 hbb hR hA hT hx5 rfl hown6 hgrow6 hat6
        obtain ⟨hb7, hR7, hO7, T7, hA7, hT7⟩ := HRA
        have hR17 := hO7 _ _ _ (by omega) (by omega) hR1
        have HSN := Lib.hid (show (boundL value (xs.take (k + 1))) = (boundL value (xs.take k)) ++ [(boundE value (nthE xs k))] from by rw [take_nthE hlt, boundL_map, boundL_map, List.map_append]; rfl)
        rw [← HSN.out] at hA7
        go_wp2
        go_roundw
        case rel => exact ⟨k + 1, by omega, by go_num, hb7, _, _, T7, hR7, hR17, hA7, hT7⟩
        case measure => simp [intOf]; omega
    · have hk' : k = xs.length := by omega
      rw [List.take_of_length_le (by omega)] at hA
      have hE := (hA.expr wo wn).mono (S' := fun b => W.heap.size + 2 ≤ b) (by rintro b (h | h); exact hT b h; exact (hA.own_lt b h).1)
      obtain ⟨a2, cap2, he2, hl2, hm2, had2, _, _, hel2⟩ := hE.els
      have hv' : v' = .slice a2 (boundL value xs).length cap2 := by simpa using he2
      clear he2 hel2
      subst hv'
      obtain ⟨m, hm9⟩ : ∃ m, m = (boundL value xs).length := ⟨_, rfl⟩
      rw [← hm9] at hR hE
      clear hk'
      have HM := Lib.hid hm9
      clear hm9
      obtain ⟨e0, e1, e2⟩ := hR.three
      have hlR := hR.lt
      have hlR1 := hR1.lt
      go_wp2_with fail
      have BIND := Lib.hid (bind1_calls wr Bv value op num a2 m cap2 wn (fun h => (HOP.out h).2) (cell_ext hcv hb))
      by_cases h1 : op = 1
      · by_cases h2 : num = 0
        · have HE := Lib.hid (show boundE value (.node op num xs) = numE value by rw [boundE, if_pos h1, if_pos h2])
          unfold bind1V at BIND
          rw [if_pos h1, if_pos h2] at BIND
          clear h1 h2
          refine BIND.out.mono ?_
          rintro _ w2 ⟨_, rfl, hb2, rfl⟩
          have hwv : WF value := hwf
          obtain ⟨r0, r1, r2⟩ := (hR1.ext hb2).three
          have q0 := (hR1.ext hb2).free 0
          have q1 := (hR1.ext hb2).free 1
          have q2 := (hR1.ext hb2).free 2
          go_wp2
          refine bodyPost_ret (v := .agg #[.int .i64 0, .int .i64 value, .slice none 0 0]) (by simp [results, Tryd.results58, go_sem, r0, r1, r2]) rfl ?_
          rw [HE.out]
          exact .mk (set3_below _ _ _ (ext_trans hb hb2) (by omega)) ((set3_expr _ _ _ (ExprV.nilargs (fun b => W.heap.size + 2 ≤ b) w2 (op := 0) (num := value) (by unfold WF; omega) hwv) (by omega)).mono fun b h => by omega)
        · have HE := Lib.hid (show boundE value (.node op num xs) = .node op (num - 1) (boundL value xs) by rw [boundE, if_pos h1, if_neg h2, (HOP.out h1).1, h1]; rfl)
          unfold bind1V at BIND
          rw [if_pos h1, if_neg h2] at BIND
          have hnn := (HOP.out h1).2
          have wn1 : WF (num - 1) := by unfold WF at wn ⊢; omega
          have hE1 := (hA.expr wo wn1).mono (S' := fun b => W.heap.size + 2 ≤ b) (by rintro b (h | h); exact hT b h; exact (hA.own_lt b h).1)
          rw [← HM.out] at hE1
          clear h1 h2
          refine BIND.out.mono ?_
          rintro _ w2 ⟨_, rfl, hb2, rfl⟩
          obtain ⟨r0, r1, r2⟩ := (hR1.ext hb2).three
          have q0 := (hR1.ext hb2).free 0
          have q1 := (hR1.ext hb2).free 1
          have q2 := (hR1.ext hb2).free 2
          go_wp2
          refine bodyPost_ret (v := .agg #[.int .i64 op, .int .i64 (num - 1), .slice a2 m cap2]) (by simp [results, Tryd.results58, go_sem, r0, r1, r2]) rfl ?_
          rw [HE.out]
          exact .mk (set3_below _ _ _ (ext_trans hb hb2) (by omega)) ((set3_expr _ _ _ (hE1.ext hb2) (by omega)).mono fun b h => by omega)
      · have HE := Lib.hid (show boundE value (.node op num xs) = .node op num (boundL value xs) by rw [boundE, if_neg h1])
        unfold bind1V at BIND
        rw [if_neg h1] at BIND
        clear h1
        refine BIND.out.mono ?_
        rintro _ w2 ⟨_, rfl, hb2, rfl⟩
        obtain ⟨r0, r1, r2⟩ := (hR1.ext hb2).three
        have q0 := (hR1.ext hb2).free 0
        have q1 := (hR1.ext hb2).free 1
        have q2 := (hR1.ext hb2).free 2
        go_wp2
        refine bodyPost_ret (v := .agg #[.int .i64 op, .int .i64 num, .slice a2 m cap2]) (by simp [results, Tryd.results58, go_sem, r0, r1, r2]) rfl ?_
        rw [HE.out]
        exact .mk (set3_below _ _ _ (ext_trans hb hb2) (by omega)) ((set3_expr _ _ _ (hE.ext hb2) (by omega)).mono fun b h => by omega)

theorem copyB_all (value : Int) (hwf : WF value) {vars : Int} {e : Ex} (h : Wf vars e) : sizeE e ≤ 1000 → CopyB value e := by
  induction h with
  | mk h0 hl hv hc hz hk hx ih =>
    rename_i vars op num xs
    intro hs
    simp only [sizeE] at hs
    have := length_le_size xs
    refine copybind_node value op num xs (by omega) hwf (fun h1 => ⟨?_, (hv h1).1⟩) fun x hx' => ih x hx' (by have := sizeE_mem hx'; omega)
    subst h1
    exact List.eq_nil_of_length_eq_zero (by have : (xs.length : Int) = 0 := hl; omega)
end Go.Proofs.YtifkkajgcekafaaDoor
