/- The reference's bound. -/
import Derived.Test.YtifkkajgcekafaaDoorExRFold1
import Derived.Test.YtifkkajgcekafaaDoorExCopyB
import Derived.Deep.DeepCutAuto
namespace Go.Proofs.YtifkkajgcekafaaDoor
set_option linter.unusedVariables false
open Go.RowKit
attribute [local go_sem ↓] Go.wp_at_zero Go.wp_at_succ

def RBoundC (value : Int) (e : Ex) : Prop := ∀ (S : Nat → Prop) (W : World) (v : Value), ExprV S W e v → Calls Tryd.prog 71 #[v, .int .i64 value] W (Post W fun W' r => ExprV (fun b => W.heap.size ≤ b) W' (boundE value e) r)

set_option maxRecDepth 100000 in
set_option maxHeartbeats 8000000 in
theorem rbound_var (value num : Int) (hwf : WF value) (hn : 0 ≤ num) : RBoundC value (varE num) := by
  intro S W v hv
  obtain ⟨a, cap, rfl, hl, hm, had, wo, wn, hel⟩ := hv.els
  clear hel had hl hm hv
  have wn' := wn
  unfold WF at wn
  obtain ⟨wn1, wn2⟩ := wn
  obtain ⟨E, hE0⟩ : ∃ E, E = boundE value (varE num) := ⟨_, rfl⟩
  rw [← hE0]
  have HEQ := Lib.hid (show E = if num = 0 then numE value else varE (num - 1) from hE0.trans (by simp [varE, boundE]))
  clear hE0
  obtain ⟨w0, hw0⟩ : ∃ w0, w0 = (W.alloc (.cells #[.int .i64 1, .int .i64 num, .slice a 0 cap] 24)).alloc (.cells #[.int .i64 0, .int .i64 0, .slice none 0 0] 24) := ⟨_, rfl⟩
  have e0 : Below W.heap.size W w0 := by rw [hw0]; exact ext_alloc' (ext_alloc W _) _
  have rE : Row w0 W.heap.size 24 [.int .i64 1, .int .i64 num, .slice a 0 cap] := by rw [hw0]; exact (row_new W [.int .i64 1, .int .i64 num, .slice a 0 cap] 24).alloc _
  have rR : Row w0 (W.heap.size + 1) 24 [.int .i64 0, .int .i64 0, .slice none 0 0] := by
    have r2 := row_new (W.alloc (.cells #[.int .i64 1, .int .i64 num, .slice a 0 cap] 24)) [.int .i64 0, .int .i64 0, .slice none 0 0] 24
    rw [World.size_alloc] at r2
    rw [hw0]
    exact r2
  obtain ⟨x0, x1, x2⟩ := rE.three
  obtain ⟨r0, r1, r2⟩ := rR.three
  have q0 := rR.free 0
  have q1 := rR.free 1
  have q2 := rR.free 2
  have hl := rE.lt
  have hl2 := rR.lt
  by_cases hz : num = 0
  · have dz : (num == 0) = true := beq_iff_eq.2 hz
    have HZ := Lib.hid hz
    clear hz
    go_enter Tryd.func71, Tryd.ntmps71
    go_upto_region 1 with fail
    rw [← hw0]
    clear hw0
    go_wp2_with fail
    refine (refNum_calls w0 value).mono ?_
    rintro _ w2 ⟨_, rfl, hb2, rfl⟩
    clear r0 r1 r2 q0 q1 q2
    obtain ⟨r0, r1, r2⟩ := (rR.ext hb2).three
    have q0 := (rR.ext hb2).free 0
    have q1 := (rR.ext hb2).free 1
    have q2 := (rR.ext hb2).free 2
    go_wp2
    refine bodyPost_ret (v := .agg #[.int .i64 0, .int .i64 value, .slice none 0 0]) (by simp [results, Tryd.results71, go_sem, r0, r1, r2]) rfl ?_
    rw [show E = numE value from HEQ.out.trans (if_pos HZ.out)]
    exact .mk (set3_below _ _ _ (ext_trans e0 hb2) (by omega)) (.nilargs _ _ (by unfold WF; omega) hwf)
  · have dz : (num == 0) = false := beq_eq_false_iff_ne.2 hz
    have hn1 : 1 ≤ num := by omega
    have HZ := Lib.hid hz
    clear hz
    go_enter Tryd.func71, Tryd.ntmps71
    go_upto_region 1 with fail
    rw [← hw0]
    clear hw0
    go_wp2
    refine bodyPost_ret (v := .agg #[.int .i64 1, .int .i64 (num - 1), .slice none 0 0]) (by simp [results, Tryd.results71, go_sem, r0, r1, r2]) rfl ?_
    rw [show E = varE (num - 1) from HEQ.out.trans (if_neg HZ.out)]
    exact .mk (set3_below _ _ _ e0 (by omega)) (.nilargs _ _ (by unfold WF; omega) (by unfold WF; omega))

set_option maxRecDepth 100000 in
set_option maxHeartbeats 8000000 in
theorem rbound_node (value op num : Int) (xs : List Ex) (hlen : xs.length ≤ 1000) (hop : op ≠ 1) (ih : ∀ x ∈ xs, RBoundC value x) : RBoundC value (.node op num xs) := by
  intro S W v hv
  obtain ⟨a, cap, rfl, hl, hm, had, wo, wn, hel⟩ := hv.els
  unfold maxLen at hm
  obtain ⟨i0, hi, hz0, hz1, hz2⟩ := info_parts info_expr3
  have hel0 := Lib.hid hel
  obtain ⟨E, hE0⟩ : ∃ E, E = boundE value (.node op num xs) := ⟨_, rfl⟩
  rw [← hE0]
  have HEQ := Lib.hid (show E = .node op num (boundL value xs) from hE0.trans (by rw [boundE, if_neg hop]))
  have d1 : (op == 1) = false := beq_eq_false_iff_ne.2 hop
  clear hel hE0 hop
  go_enter Tryd.func71, Tryd.ntmps71
  go_wp2
  go_loopw [6] (fun i wr => ∃ k : Nat, k ≤ xs.length ∧ i = .int .i64 k ∧ Below W.heap.size W wr ∧ ∃ (v' : Value) (us : List Tri) (T : Nat → Prop), Row wr (W.heap.size) 24 [.int .i64 op, .int .i64 num, .slice a xs.length cap] ∧ Row wr (W.heap.size + 1) 24 [.int .i64 0, .int .i64 0, .slice none 0 0] ∧ Row wr (W.heap.size + 2) 24 [.int .i64 op, .int .i64 num, v'] ∧
      Args3 T (W.heap.size + 3) wr v' us (boundL value (xs.take k)) ∧ (∀ b, T b → W.heap.size + 3 ≤ b)) (fun i _ => xs.length - (intOf i).toNat)
  case atStart =>
    refine ⟨0, by omega, rfl, ext_alloc' (ext_alloc' (ext_alloc W _) _) _, .slice none 0 0, [], fun _ => False, ((row_new W [.int .i64 op, .int .i64 num, .slice a xs.length cap] _).alloc _).alloc _, ?_, ?_, Args3.nil _ _, fun b h => h.elim⟩
    · have := (row_new (W.alloc (.cells #[.int .i64 op, .int .i64 num, .slice a xs.length cap] 24)) [.int .i64 0, .int .i64 0, .slice none 0 0] 24).alloc (.cells #[.int .i64 op, .int .i64 num, .slice none 0 0] 24)
      rwa [World.size_alloc] at this
    · have := row_new ((W.alloc (.cells #[.int .i64 op, .int .i64 num, .slice a xs.length cap] 24)).alloc (.cells #[.int .i64 0, .int .i64 0, .slice none 0 0] 24)) [.int .i64 op, .int .i64 num, .slice none 0 0] 24
      rwa [World.size_alloc, World.size_alloc] at this
  case round =>
    obtain ⟨k, hk, rfl, hb, v', us, T, hE, hR1, hR, hA, hT⟩ := hrel
    by_cases hlt : k < xs.length
    · obtain ⟨b, off, a', c', hel⟩ := hel0.out k hlt
      have hel1 := hel.ext hb
      have q := hel1.idx
      have c0 := hel1.c0
      have c1 := hel1.c1
      have c2 := hel1.c2
      obtain ⟨x0, x1, x2⟩ := hE.three
      have ce := hR.cell (j := 2) rfl
      have hlE := hE.lt
      have hlR := hR.lt
      have hlR1 := hR1.lt
      go_wp2_with fail
      have hex  := hel1.ex
      have HK := Lib.hid (boundL_length value (xs.take k))
      have HIH := Lib.hid (ih _ (nthE_mem (l := xs) hlt))
      have IK := Lib.hid (fun W' (hW' : Below wr.heap.size wr W') => HIH.out _ W' _ (hex.ext hW'))
      have hrefl := Below.refl wr.heap.size wr
      have hkl : (boundL value (xs.take k)).length ≤ 1000 := by rw [HK.out, List.length_take]; omega
      have B1 := Lib.hid (show (boundL value (xs.take k)).length + 1 ≤ maxLen by unfold maxLen; omega)
      have B2 := Lib.hid (show ((boundL value (xs.take k)).length + 1) * 40 ≤ 140737488355328 by omega)
      have hbs := hb.size
      have HNE := Lib.hid (show v'.ownBlock ≠ some (W.heap.size + 2) from fun h => by have := (hA.own_lt _ h).1; omega)
      go_region_law
        (first
          | (go_simp; go_at_call 71; refine (IK.out _ (by first | assumption | (apply Below.drew; assumption))).mono ?_; rintro _ w5 ⟨v5, rfl, hb5, hx5⟩; obtain ⟨a5, c5, rfl, wo5, wn5, _⟩ := hx5.parts; have hbb : Below wr.heap.size wr w5 := ext_trans (by first | assumption | (apply Below.drew; assumption)) hb5; have ce5 := cell_ext ce hbb; have OWN5 := Lib.hid (hA.2.1 |> fun h => owns_ext h hbb); have hl5 : W.heap.size + 2 < w5.heap.size := Nat.lt_of_lt_of_le hR.lt hbb.size)
          | (refine step_append_lies _ (by rfl) _ _ _ (by rfl) (W.heap.size + 3) 24 i0 _ 3 40 Tryd.underlying22 hi hz0 hz1 hz2 rfl (by decide) v' (boundL value (xs.take k)).length (flat us) (by rfl) (by first | exact OWN5.out.alloc _ | exact (OWN5.out.alloc _).drew) ⟨w5.heap.size, 0, none⟩ 1 1 [.int .i64 (boundE value (nthE xs k)).op, .int .i64 (boundE value (nthE xs k)).num, .slice a5 (boundE value (nthE xs k)).args.length c5] (by rfl) (by rfl)
              (World.news_of_block (cs := #[.int .i64 (boundE value (nthE xs k)).op, .int .i64 (boundE value (nthE xs k)).num, .slice a5 (boundE value (nthE xs k)).args.length c5]) (t := 24) (fr := (0, 0)) (heap_alloc_new w5 _)) (by simp [Value.oneCell']) (by decide) B1.out B2.out (by simp; omega) (w5.heap.size + 1) (by simp) ?_; intro g6 cp6 w6 hown6 hgrow6 hat6 hlt6; have hR6 := Row.grown ((hR.ext hbb).alloc (.cells #[.int .i64 (boundE value (nthE xs k)).op, .int .i64 (boundE value (nthE xs k)).num, .slice a5 (boundE value (nthE xs k)).args.length c5] 24)) hgrow6 HNE.out; have ce6 := hR6.cell (j := 2) rfl; have fr6 := hR6.free 2))
      all_goals
        have HRA := round_args (W := W) (base := W.heap.size + 3) (Bx := W.heap.size + 2) (by omega) (by omega) (by omega) hb hrefl hbb hR hA hT hx5 rfl hown6 hgrow6 hat6
        obtain ⟨hb7, hR7, hO7, T7, hA7, hT7⟩ := HRA
        have hE7 := hO7 _ _ _ (by omega) (by omega) hE
        have hR17 := hO7 _ _ _ (by omega) (by omega) hR1
        have HSN := Lib.hid (show boundL value (xs.take (k + 1)) = (boundL value (xs.take k)) ++ [(boundE value (nthE xs k))] from by rw [take_nthE hlt, boundL_map, boundL_map, List.map_append]; rfl)
        rw [← HSN.out] at hA7
        go_wp2
        go_roundw
        case rel => exact ⟨k + 1, by omega, by go_num, hb7, _, _, T7, hE7, hR17, hR7, hA7, hT7⟩
        case measure => simp [intOf]; omega
    · have hk' : k = xs.length := by omega
      rw [List.take_of_length_le (by omega)] at hA
      have hX := (hA.expr wo wn).mono (S' := fun b => W.heap.size + 3 ≤ b) (by rintro b (h | h); exact hT b h; exact (hA.own_lt b h).1)
      obtain ⟨a2, cap2, he2, hl2, hm2, had2, _, _, hel2⟩ := hX.els
      have hv' : v' = .slice a2 (boundL value xs).length cap2 := by simpa using he2
      clear he2 hel2
      subst hv'
      obtain ⟨m, hm9⟩ : ∃ m, m = (boundL value xs).length := ⟨_, rfl⟩
      rw [← hm9] at hR hX
      clear hk'
      have HM := Lib.hid hm9
      clear hm9
      obtain ⟨e0, e1, e2⟩ := hR.three
      obtain ⟨x0, x1, x2⟩ := hE.three
      obtain ⟨r0, r1, r2⟩ := hR1.three
      have q0 := hR1.free 0
      have q1 := hR1.free 1
      have q2 := hR1.free 2
      have hlE := hE.lt
      have hlR := hR.lt
      have hlR1 := hR1.lt
      go_wp2
      refine bodyPost_ret (v := .agg #[.int .i64 op, .int .i64 num, .slice a2 m cap2]) (by simp [results, Tryd.results71, go_sem, r0, r1, r2]) rfl ?_
      rw [HEQ.out]
      exact .mk (set3_below _ _ _ hb (by omega)) (set3_exprU _ _ _ hX (fun hc => by omega) (fun b hc => by omega))
theorem rbound_all (value : Int) (hwf : WF value) {vars : Int} {e : Ex} (h : Wf vars e) : RBoundC value e := by
  induction h using Wf.rec4 with
  | hn vars n h => exact rbound_node value 0 n [] (by simp) (by omega) (by simp)
  | hv vars n h h1 => exact rbound_var value n hwf h
  | h1 vars op x ho hk hx ih =>
    refine rbound_node value op 0 [x] (by simp) (by unfold op1 at ho; omega) (fun z hz => ?_)
    obtain rfl : z = x := by simpa using hz
    exact ih
  | h2 vars op x y h4 h11 hk hk2 hx hy ih ih2 =>
    refine rbound_node value op 0 [x, y] (by simp) (by omega) (fun z hz => ?_)
    rcases List.mem_cons.1 hz with rfl | hz
    · exact ih
    · obtain rfl : z = y := by simpa using hz
      exact ih2
end Go.Proofs.YtifkkajgcekafaaDoor
