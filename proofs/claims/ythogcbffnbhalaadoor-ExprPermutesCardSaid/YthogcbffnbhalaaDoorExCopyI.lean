/- The program's copied. -/
import Derived.Test.YthogcbffnbhalaaDoorExArgs2
import Derived.Test.YthogcbffnbhalaaDoorExNeg
namespace Go.Proofs.YthogcbffnbhalaaDoor
set_option linter.unusedVariables false
open Go.RowKit
attribute [local go_sem ↓] Go.wp_at_zero Go.wp_at_succ

def idL (l : List Ex) : List Ex := l
def CopyI (e : Ex) : Prop := ∀ (S : Nat → Prop) (W : World) (v : Value), ExprV S W e v → Calls Tryd.prog 34 #[v, .func (.func 36) #[] #[]] W (Post W fun W' r => ExprV (fun b => W.heap.size ≤ b) W' e r)

theorem same1_calls (W : World) (o n : Int) (a : Option Addr) (l c : Nat) : Calls Tryd.prog 36 #[.agg #[.int .i64 o, .int .i64 n, .slice a l c]] W (Post W fun _ r => r = .agg #[.int .i64 o, .int .i64 n, .slice a l c]) := by
  go_enter Tryd.func36, Tryd.ntmps36
  go_wp2
  refine bodyPost_ret (v := .agg #[.int .i64 o, .int .i64 n, .slice a l c]) (by simp [results, Tryd.results36, go_sem]) rfl ?_
  exact .mk (ext_alloc' (ext_alloc W _) _) rfl

set_option maxRecDepth 100000 in
set_option maxHeartbeats 8000000 in
theorem copyid_node (op num : Int) (xs : List Ex) (hlen : xs.length ≤ 1000) (ih : ∀ x ∈ xs, CopyI x) : CopyI (.node op num xs) := by
  intro S W v hv
  obtain ⟨a, cap, rfl, hl, hm, had, wo, wn, hel⟩ := hv.els
  unfold maxLen at hm
  obtain ⟨i0, hi, hz0, hz1, hz2⟩ := info_parts info_expr3
  have hel0 := Lib.hid hel
  clear hel
  go_enter Tryd.func34, Tryd.ntmps34
  go_wp2
  go_loopw [13] (fun i wr => ∃ k : Nat, k ≤ xs.length ∧ i = .int .i64 k ∧ Below W.heap.size W wr ∧ ∃ (v' : Value) (us : List Tri) (T : Nat → Prop), Row wr W.heap.size 24 [.int .i64 op, .int .i64 num, v'] ∧ Row wr (W.heap.size + 1) 24 [.int .i64 0, .int .i64 0, .slice none 0 0] ∧
      Args3 T (W.heap.size + 2) wr v' us (idL (xs.take k)) ∧ (∀ b, T b → W.heap.size + 2 ≤ b)) (fun i _ => xs.length - (intOf i).toNat)
  case atStart =>
    refine ⟨0, by omega, rfl, ext_alloc' (ext_alloc W _) _, .slice none 0 0, [], fun _ => False, (row_new W [.int .i64 op, .int .i64 num, .slice none 0 0] _).alloc _, ?_, Args3.nil _ _, fun b h => h.elim⟩
    have := row_new (W.alloc (.cells #[.int .i64 op, .int .i64 num, .slice none 0 0] 24)) [.int .i64 0, .int .i64 0, .slice none 0 0] 24
    rwa [World.size_alloc] at this
  case round =>
    obtain ⟨k, hk, rfl, hb, v', us, T, hR, hR1, hA, hT⟩ := hrel
    by_cases hlt : k < xs.length
    · obtain ⟨b, off, a', c', hel⟩ := hel0.out k hlt
      have hel1 := hel.ext hb
      have q := hel1.idx
      have c0 := hel1.c0
      have c1 := hel1.c1
      have c2 := hel1.c2
      go_wp2_with fail
      have hlR := hR.lt
      have hlR1 := hR1.lt
      obtain ⟨w1, hw1⟩ : ∃ w1, w1 = wr.alloc (.cells #[.int .i64 (nthE xs k).op, .int .i64 (nthE xs k).num, .slice a' (nthE xs k).args.length c'] 24) := ⟨_, rfl⟩
      rw [← hw1]
      have hb1 : Below wr.heap.size wr w1 := by rw [hw1]; exact ext_alloc wr _
      have hX1 : Row w1 wr.heap.size 24 [.int .i64 (nthE xs k).op, .int .i64 (nthE xs k).num, .slice a' (nthE xs k).args.length c'] := by rw [hw1]; exact row_new wr _ _
      clear hw1 q c0 c1 c2
      have hlX := hX1.lt
      have hR2 := hR.ext hb1
      have hA2 := (hA.bound).ext hb1
      obtain ⟨x0, x1, x2⟩ := hX1.three
      have ce := hR2.cell (j := 2) rfl
      have hex := hel1.ex.ext hb1
      have HK := Lib.hid (show (idL (xs.take k)).length = (xs.take k).length from rfl)
      have HIH := Lib.hid (ih _ (nthE_mem hlt))
      have IK := Lib.hid (fun W' (hW' : Below w1.heap.size w1 W') => HIH.out _ W' _ (hex.ext hW'))
      have hrefl := Below.refl w1.heap.size w1
      have hne : wr.heap.size ≠ W.heap.size := by omega
      have hkl : (idL (xs.take k)).length ≤ 1000 := by rw [HK.out, List.length_take]; omega
      have B1 := Lib.hid (show (idL (xs.take k)).length + 1 ≤ maxLen by unfold maxLen; omega)
      have B2 := Lib.hid (show ((idL (xs.take k)).length + 1) * 40 ≤ 140737488355328 by omega)
      have hbs := hb.size
      have HNE := Lib.hid (show v'.ownBlock ≠ some W.heap.size from fun h => by have := (hA.own_lt _ h).1; omega)
      go_region_law
        (first
          | (go_simp; go_at_call 34; refine (IK.out _ (by first | assumption | (apply Below.drew; assumption))).mono ?_; rintro _ w5 ⟨v5, rfl, hb5, hx5⟩; obtain ⟨a5, c5, rfl, wo5, wn5, _⟩ := hx5.parts; have hbb : Below w1.heap.size w1 w5 := ext_trans (by first | assumption | (apply Below.drew; assumption)) hb5; have ce5 := cell_ext ce hbb; have OWN5 := Lib.hid (hA2.2.1 |> fun h => owns_ext h hbb); have hl5 : W.heap.size < w5.heap.size := Nat.lt_of_lt_of_le hR2.lt hbb.size)
          | (refine step_append_lies _ (by rfl) _ _ _ (by rfl) (W.heap.size + 2) 24 i0 _ 3 40 Tryd.underlying22 hi hz0 hz1 hz2 rfl (by decide) v' (idL (xs.take k)).length (flat us) (by rfl) (by first | exact OWN5.out.alloc _ | exact (OWN5.out.alloc _).drew) ⟨w5.heap.size, 0, none⟩ 1 1 [.int .i64 (nthE xs k).op, .int .i64 (nthE xs k).num, .slice a5 (nthE xs k).args.length c5] (by rfl) (by rfl)
              (World.news_of_block (cs := #[.int .i64 (nthE xs k).op, .int .i64 (nthE xs k).num, .slice a5 (nthE xs k).args.length c5]) (t := 24) (fr := (0, 0)) (heap_alloc_new w5 _)) (by simp [Value.oneCell']) (by decide) B1.out B2.out (by simp; omega) (w5.heap.size + 1) (by simp) ?_; intro g6 cp6 w6 hown6 hgrow6 hat6 hlt6; have hR6 := Row.grown ((hR2.ext hbb).alloc (.cells #[.int .i64 (nthE xs k).op, .int .i64 (nthE xs k).num, .slice a5 (nthE xs k).args.length c5] 24)) hgrow6 HNE.out; have ce6 := hR6.cell (j := 2) rfl; have fr6 := hR6.free 2))
      all_goals
        have HRA := round_args (W := W) (base := W.heap.size + 2) (Bx := W.heap.size) (Nat.le_refl _) (by omega) (by have := hR1.lt; omega) hb hb1 hbb hR hA hT hx5 rfl hown6 hgrow6 hat6
        obtain ⟨hb7, hR7, hO7, T7, hA7, hT7⟩ := HRA
        have hR17 := hO7 _ _ _ (by omega) (by omega) hR1
        have HSN := Lib.hid (show (idL (xs.take (k + 1))) = (idL (xs.take k)) ++ [(nthE xs k)] from take_nthE hlt)
        rw [← HSN.out] at hA7
        go_wp2
        go_roundw
        case rel => exact ⟨k + 1, by omega, by go_num, hb7, _, _, T7, hR7, hR17, hA7, hT7⟩
        case measure => simp [intOf]; omega
    · have hk' : k = xs.length := by omega
      rw [List.take_of_length_le (by omega)] at hA
      have hE := (hA.expr wo wn).mono (S' := fun b => W.heap.size + 2 ≤ b) (by rintro b (h | h); exact hT b h; exact (hA.own_lt b h).1)
      obtain ⟨a2, cap2, he2, hl2, hm2, had2, _, _, hel2⟩ := hE.els
      have hv' : v' = .slice a2 (idL xs).length cap2 := by simpa using he2
      clear he2 hel2
      subst hv'
      obtain ⟨m, hm9⟩ : ∃ m, m = (idL xs).length := ⟨_, rfl⟩
      rw [← hm9] at hR hE
      clear hk'
      have HM := Lib.hid hm9
      clear hm9
      obtain ⟨e0, e1, e2⟩ := hR.three
      have hlR := hR.lt
      have hlR1 := hR1.lt
      go_wp2_with fail
      refine (same1_calls _ op num a2 m cap2).mono ?_
      rintro _ w2 ⟨_, rfl, hb2, rfl⟩
      obtain ⟨r0, r1, r2⟩ := (hR1.ext hb2).three
      have q0 := (hR1.ext hb2).free 0
      have q1 := (hR1.ext hb2).free 1
      have q2 := (hR1.ext hb2).free 2
      go_wp2
      refine bodyPost_ret (v := .agg #[.int .i64 op, .int .i64 num, .slice a2 m cap2]) (by simp [results, Tryd.results34, go_sem, r0, r1, r2]) rfl ?_
      exact .mk (set3_below _ _ _ (ext_trans hb hb2) (by omega)) ((set3_expr _ _ _ (hE.ext hb2) (by omega)).mono fun b h => by omega)

theorem copyI_all (e : Ex) : sizeE e ≤ 1000 → CopyI e := by
  induction e using Ex.ind with
  | h op num xs ih =>
    intro hs
    simp only [sizeE] at hs
    have := length_le_size xs
    exact copyid_node op num xs (by omega) fun x hx => ih x hx (by have := sizeE_mem hx; omega)
end Go.Proofs.YthogcbffnbhalaaDoor

