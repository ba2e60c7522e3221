/- The reference's folded. -/
import Derived.Test.YtifkkajgcekafaaDoorExRFold2
import Derived.Test.YtifkkajgcekafaaDoorExTop
import Derived.Deep.DeepCutAuto
namespace Go.Proofs.YtifkkajgcekafaaDoor
set_option linter.unusedVariables false
open Go.RowKit
attribute [local go_sem ↓] Go.wp_at_zero Go.wp_at_succ

def RFoldC (e : Ex) : Prop := ∀ (S : Nat → Prop) (W : World) (v : Value), ExprV S W e v → Calls Tryd.prog 57 #[v] W (Post W fun W' r => ExprV (fun b => W.heap.size ≤ b) W' (foldE e) r)
def RSimpC (e : Ex) : Prop := ∀ (S : Nat → Prop) (W : World) (v : Value), ExprV S W e v → Calls Tryd.prog 88 #[v] W (Post W fun W' r => ExprV (fun b => S b ∨ W.heap.size ≤ b) W' (simpleE e) r)

set_option maxRecDepth 100000 in
set_option maxHeartbeats 8000000 in
theorem rfolded_node (op num : Int) (xs : List Ex) (hlen : xs.length ≤ 1000) (ih : ∀ x ∈ xs, RFoldC x) (hs : RSimpC (.node op num (foldL xs))) : RFoldC (.node op num xs) := by
  intro S W v hv
  obtain ⟨a, cap, rfl, hl, hm, had, wo, wn, hel⟩ := hv.els
  unfold maxLen at hm
  obtain ⟨i0, hi, hz0, hz1, hz2⟩ := info_parts info_expr3
  have hel0 := Lib.hid hel
  obtain ⟨E, hE0⟩ : ∃ E, E = simpleE (.node op num (foldL xs)) := ⟨_, rfl⟩
  rw [foldE, ← hE0]
  have HS := Lib.hid (fun S W v (h : ExprV S W (.node op num (foldL xs)) v) => hE0 ▸ hs S W v h)
  have HEQ := Lib.hid hE0
  clear hel hE0
  go_enter Tryd.func57, Tryd.ntmps57
  go_wp2
  go_loopw [4] (fun i wr => ∃ k : Nat, k ≤ xs.length ∧ i = .int .i64 k ∧ Below W.heap.size W wr ∧ ∃ (v' : Value) (us : List Tri) (T : Nat → Prop), Row wr (W.heap.size) 24 [.int .i64 op, .int .i64 num, .slice a xs.length cap] ∧ Row wr (W.heap.size + 1) 24 [.int .i64 0, .int .i64 0, .slice none 0 0] ∧ Row wr (W.heap.size + 2) 24 [.int .i64 op, .int .i64 num, v'] ∧
      Args3 T (W.heap.size + 3) wr v' us (foldL (xs.take k)) ∧ (∀ b, T b → W.heap.size + 3 ≤ b)) (fun i _ => xs.length - (intOf i).toNat)
  case atStart =>
    refine ⟨0, by omega, rfl, ext_alloc' (ext_alloc' (ext_alloc W _) _) _, .slice none 0 0, [], fun _ => False, ((row_new W [.int .i64 op, .int .i64 num, .slice a xs.length cap] _).alloc _).alloc _, ?_, ?_, Args3.nil _ _, fun b h => h.elim⟩
    · have := (row_new (W.alloc (.cells #[.int .i64 op, .int .i64 num, .slice a xs.length cap] 24)) [.int .i64 0, .int .i64 0, .slice none 0 0] 24).alloc (.cells #[.int .i64 op, .int .i64 num, .slice none 0 0] 24)
      rwa [World.size_alloc] at this
    · have := row_new ((W.alloc (.cells #[.int .i64 op, .int .i64 num, .slice a xs.length cap] 24)).alloc (.cells #[.int .i64 0, .int .i64 0, .slice none 0 0] 24)) [.int .i64 op, .int .i64 num, .slice none 0 0] 24
      rwa [World.size_alloc, World.size_alloc] at this
  case round =>
    obtain ⟨k, hk, rfl, hb, v', us, T, hE, hR1, hR, hA, hT⟩ := hrel
    by_cases hlt : k < xs.length
    · obtain ⟨b, off, a', c', hel⟩ := hel0.out k hlt
      have hel1 := hel.ext hb
      have q := hel1.idx
      have c0 := hel1.c0
      have c1 := hel1.c1
      have c2 := hel1.c2
      obtain ⟨x0, x1, x2⟩ := hE.three
      have ce := hR.cell (j := 2) rfl
      have hlE := hE.lt
      have hlR := hR.lt
      have hlR1 := hR1.lt
      go_wp2_with fail
      have hex  := hel1.ex
      have HK := Lib.hid (foldL_length (xs.take k))
      have HIH := Lib.hid (ih _ (nthE_mem (l := xs) hlt))
      have IK := Lib.hid (fun W' (hW' : Below wr.heap.size wr W') => HIH.out _ W' _ (hex.ext hW'))
      have hrefl := Below.refl wr.heap.size wr
      have hkl : (foldL (xs.take k)).length ≤ 1000 := by rw [HK.out, List.length_take]; omega
      have B1 := Lib.hid (show (foldL (xs.take k)).length + 1 ≤ maxLen by unfold maxLen; omega)
      have B2 := Lib.hid (show ((foldL (xs.take k)).length + 1) * 40 ≤ 140737488355328 by omega)
      have hbs := hb.size
      have HNE := Lib.hid (show v'.ownBlock ≠ some (W.heap.size + 2) from fun h => by have := (hA.own_lt _ h).1; omega)
      go_region_law
        (first
          | (go_simp; go_at_call 57; refine (IK.out _ (by first | assumption | (apply Below.drew; assumption))).mono ?_; rintro _ w5 ⟨v5, rfl, hb5, hx5⟩; obtain ⟨a5, c5, rfl, wo5, wn5, _⟩ := hx5.parts; have hbb : Below wr.heap.size wr w5 := ext_trans (by first | assumption | (apply Below.drew; assumption)) hb5; have ce5 := cell_ext ce hbb; have OWN5 := Lib.hid (hA.2.1 |> fun h => owns_ext h hbb); have hl5 : W.heap.size + 2 < w5.heap.size := Nat.lt_of_lt_of_le hR.lt hbb.size)
          | (refine step_append_lies _ (by rfl) _ _ _ (by rfl) (W.heap.size + 3) 24 i0 _ 3 40 Tryd.underlying22 hi hz0 hz1 hz2 rfl (by decide) v' (foldL (xs.take k)).length (flat us) (by rfl) (by first | exact OWN5.out.alloc _ | exact (OWN5.out.alloc _).drew) ⟨w5.heap.size, 0, none⟩ 1 1 [.int .i64 (foldE (nthE xs k)).op, .int .i64 (foldE (nthE xs k)).num, .slice a5 (foldE (nthE xs k)).args.length c5] (by rfl) (by rfl)
              (World.news_of_block (cs := #[.int .i64 (foldE (nthE xs k)).op, .int .i64 (foldE (nthE xs k)).num, .slice a5 (foldE (nthE xs k)).args.length c5]) (t := 24) (fr := (0, 0)) (heap_alloc_new w5 _)) (by simp [Value.oneCell']) (by decide) B1.out B2.out (by simp; omega) (w5.heap.size + 1) (by simp) ?_; intro g6 cp6 w6 hown6 hgrow6 hat6 hlt6; have hR6 := Row.grown ((hR.ext hbb).alloc (.cells #[.int .i64 (foldE (nthE xs k)).op, .int .i64 (foldE (nthE xs k)).num, .slice a5 (foldE (nthE xs k)).args.length c5] 24)) hgrow6 HNE.out; have ce6 := hR6.cell (j := 2) rfl; have fr6 := hR6.free 2))
      all_goals
        have HRA := round_args (W := W) (base := W.heap.size + 3) (Bx := W.heap.size + 2) (by omega) (by omega) (by omega) hb hrefl hbb hR hA hT hx5 rfl hown6 hgrow6 hat6
        obtain ⟨hb7, hR7, hO7, T7, hA7, hT7⟩ := HRA
        have hE7 := hO7 _ _ _ (by omega) (by omega) hE
        have hR17 := hO7 _ _ _ (by omega) (by omega) hR1
        have HSN := Lib.hid (show foldL (xs.take (k + 1)) = (foldL (xs.take k)) ++ [(foldE (nthE xs k))] from by rw [take_nthE hlt, foldL_map, foldL_map, List.map_append]; rfl)
        rw [← HSN.out] at hA7
        go_wp2
        go_roundw
        case rel => exact ⟨k + 1, by omega, by go_num, hb7, _, _, T7, hE7, hR17, hR7, hA7, hT7⟩
        case measure => simp [intOf]; omega
    · have hk' : k = xs.length := by omega
      rw [List.take_of_length_le (by omega)] at hA
      have hX := (hA.expr wo wn).mono (S' := fun b => W.heap.size + 3 ≤ b) (by rintro b (h | h); exact hT b h; exact (hA.own_lt b h).1)
      obtain ⟨a2, cap2, he2, hl2, hm2, had2, _, _, hel2⟩ := hX.els
      have hv' : v' = .slice a2 (foldL xs).length cap2 := by simpa using he2
      clear he2 hel2
      subst hv'
      have CALL := Lib.hid (fun v h => HS.out (fun b => W.heap.size + 3 ≤ b) wr v h)
      have CALL := Lib.hid (CALL.out _ hX)
      obtain ⟨m, hm9⟩ : ∃ m, m = (foldL xs).length := ⟨_, rfl⟩
      rw [← hm9] at hR CALL
      clear hk'
      have HM := Lib.hid hm9
      clear hm9 hX HS
      obtain ⟨e0, e1, e2⟩ := hR.three
      obtain ⟨x0, x1, x2⟩ := hE.three
      have hlE := hE.lt
      have hlR := hR.lt
      have hlR1 := hR1.lt
      go_wp2_with fail
      refine CALL.out.mono ?_
      rintro _ w2 ⟨v2, rfl, hb2, hx2⟩
      obtain ⟨a9, c9, rfl, _⟩ := hx2.parts
      obtain ⟨r0, r1, r2⟩ := (hR1.ext hb2).three
      have q0 := (hR1.ext hb2).free 0
      have q1 := (hR1.ext hb2).free 1
      have q2 := (hR1.ext hb2).free 2
      go_wp2
      refine bodyPost_ret (v := .agg #[.int .i64 E.op, .int .i64 E.num, .slice a9 E.args.length c9]) (by simp [results, Tryd.results57, go_sem, r0, r1, r2]) rfl ?_
      exact .mk (set3_below _ _ _ (ext_trans hb hb2) (by omega)) (set3_exprU _ _ _ hx2 (fun hc => by omega) (fun b hc => by omega))

theorem rsimp_one {op : Int} {x : Ex} (ho : op1 op) (hnot : op = 12 → x.op = 12 → ∃ z, x = oneE 12 z) : RSimpC (oneE op x) := by
  intro S W v h
  rcases ho with rfl | rfl | rfl | rfl | rfl | rfl
  · exact refSimple_other h (by omega)
  · exact refSimple_other h (by omega)
  · exact refSimple_not12 h (hnot rfl)
  · exact refSimple_quant13 h
  · exact refSimple_quant14 h
  · exact refSimple_count15 h
theorem rsimp_two {op : Int} {x y : Ex} (h4 : 4 ≤ op) (h11 : op ≤ 11) (hsx : x.op = 0 → small x.num = true) (hsy : y.op = 0 → small y.num = true) : RSimpC (twoE op x y) := by
  intro S W v h
  have : op = 4 ∨ op = 5 ∨ op = 6 ∨ op = 7 ∨ op = 8 ∨ op = 9 ∨ op = 10 ∨ op = 11 := by omega
  rcases this with rfl | rfl | rfl | rfl | rfl | rfl | rfl | rfl
  · exact refSimple_other h (by omega)
  · exact refSimple_num5 h hsx hsy
  · exact refSimple_num6 h hsx hsy
  · exact refSimple_num7 h hsx hsy
  · exact refSimple_num8 h hsx hsy
  · exact refSimple_num9 h hsx hsy
  · exact refSimple_logic10 h
  · exact refSimple_logic11 h
theorem rfolded_all {vars : Int} {e : Ex} (h : Wf vars e) : RFoldC e := by
  induction h using Wf.rec4 with
  | hn vars n h => exact rfolded_node 0 n [] (by simp) (by simp) (fun S W v h => refSimple_other h (by omega))
  | hv vars n h h1 => exact rfolded_node 1 n [] (by simp) (by simp) (fun S W v h => refSimple_other h (by omega))
  | h1 vars op x ho hk hx ih =>
    refine rfolded_node op 0 [x] (by simp) (fun z hz => ?_) (rsimp_one ho fun h h12 => (Kept.fold hx).wf.not_form h12)
    obtain rfl : z = x := by simpa using hz
    exact ih
  | h2 vars op x y h4 h11 hk hk2 hx hy ih ih2 =>
    have hsx : (foldE x).op = 0 → small (foldE x).num = true := fun h => (op_zero_num (Kept.fold hx).wf h).2
    have hsy : (foldE y).op = 0 → small (foldE y).num = true := fun h => (op_zero_num (Kept.fold hy).wf h).2
    refine rfolded_node op 0 [x, y] (by simp) (fun z hz => ?_) (rsimp_two h4 h11 hsx hsy)
    rcases List.mem_cons.1 hz with rfl | hz
    · exact ih
    · obtain rfl : z = y := by simpa using hz
      exact ih2

set_option maxRecDepth 100000 in
set_option maxHeartbeats 8000000 in
theorem refFold_calls {S : Nat → Prop} {w : World} {e : Ex} {v : Value} (h : ExprV S w e v) (hsz : sizeE e ≤ 1000) (vars : Int) :
    Calls Tryd.prog 19 #[v, .int .i64 vars] w (Post w fun W' r => PairP (fun b => w.heap.size ≤ b) (foldR e vars) W' r) := by
  obtain ⟨a, cap, rfl, eo, en, ae, l1, l2⟩ := h.parts
  have HE := h
  have ex1 := ext_alloc' (ext_alloc w (.cells #[.int .i64 e.op, .int .i64 e.num, .slice a e.args.length cap] 24)) (.cells #[.int .i64 0, .int .i64 0, .slice none 0 0] 24)
  have r1 := (row_new w [.int .i64 e.op, .int .i64 e.num, .slice a e.args.length cap] 24).alloc (.cells #[.int .i64 0, .int .i64 0, .slice none 0 0] 24)
  have rR := row_new (w.alloc (.cells #[.int .i64 e.op, .int .i64 e.num, .slice a e.args.length cap] 24)) [.int .i64 0, .int .i64 0, .slice none 0 0] 24
  rw [World.size_alloc] at rR
  obtain ⟨c, hc⟩ : ∃ c, c = checkE e vars := ⟨_, rfl⟩
  have HC := Lib.hid hc
  have CHK := Lib.hid (refCheck_calls (HE.ext ex1) (by omega) vars)
  rw [← hc] at CHK
  obtain ⟨R, hR⟩ : ∃ R, R = foldR e vars := ⟨_, rfl⟩
  rw [← hR]
  have HR := Lib.hid hR
  clear hc hR
  go_enter Tryd.func19, Tryd.ntmps19
  go_wp2_with fail
  refine CHK.out.mono ?_
  rintro _ w1 ⟨_, rfl, hb1, rfl⟩
  have e1 := ext_trans ex1 hb1
  obtain ⟨x0, x1, x2⟩ := (r1.ext hb1).three
  have rR1 := rR.ext hb1
  obtain ⟨r0, r1', r2⟩ := rR1.three
  have q0 := rR1.free 0
  have q1 := rR1.free 1
  have q2 := rR1.free 2
  have lR := rR1.lt
  by_cases hc0 : c = 0
  · have dc : (c != 0) = false := by simpa using hc0
    have HC0 := Lib.hid hc0
    clear hc0
    have hwf := (Wf.of_check (e := e) (vars := vars) (HC.out.symm.trans HC0.out)).1
    go_wp2_with fail
    refine (rfolded_all hwf _ w1 _ (HE.ext e1)).mono ?_
    rintro _ w2 ⟨v2, rfl, hb2, hx2⟩
    obtain ⟨X, hX⟩ : ∃ X, X = foldE e := ⟨_, rfl⟩
    rw [← hX] at hx2
    have HX := Lib.hid hX
    clear hX
    obtain ⟨a2, c2, rfl, _⟩ := hx2.parts
    have rR2 := rR1.ext hb2
    clear r0 r1' r2 q0 q1 q2
    obtain ⟨r0, r1', r2⟩ := rR2.three
    have q0 := rR2.free 0
    have q1 := rR2.free 1
    have q2 := rR2.free 2
    go_wp2
    refine bodyPost_ret (v := .tuple #[.agg #[.int .i64 X.op, .int .i64 X.num, .slice a2 X.args.length c2], .int .i64 0]) (by simp [results, Tryd.results19, go_sem, r0, r1', r2]) rfl ?_
    exact .mk (set3_below _ _ _ (ext_trans e1 hb2) (by omega)) (.mk' (x := X) (HR.out.trans (by unfold foldR; rw [← HC.out, if_neg (by rw [HC0.out]; simp), HX.out])) ((set3_expr (base := w1.heap.size) _ _ _ hx2 (by omega)).mono fun b h => by omega))
  · have dc : (c != 0) = true := by simpa using hc0
    have HC0 := Lib.hid hc0
    clear hc0
    go_wp2
    refine bodyPost_ret (v := .tuple #[.agg #[.int .i64 0, .int .i64 0, .slice none 0 0], .int .i64 c]) (by simp [results, Tryd.results19, go_sem, r0, r1', r2]) rfl ?_
    exact .mk (set3_below _ _ _ e1 (by omega)) (.mk' (x := numE 0) (HR.out.trans (by unfold foldR; rw [← HC.out, if_pos HC0.out])) (.nilargs _ _ (by unfold WF; omega) (by unfold WF; omega)))

end Go.Proofs.YtifkkajgcekafaaDoor
