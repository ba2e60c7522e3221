/- The program's folded. -/
import Derived.Test.YthogcbffnbhalaaDoorExFoldD
namespace Go.Proofs.YthogcbffnbhalaaDoor
set_option linter.unusedVariables false
open Go.RowKit
attribute [local go_sem ↓] Go.wp_at_zero Go.wp_at_succ

set_option maxRecDepth 100000 in
set_option maxHeartbeats 8000000 in
theorem fold_not (x : Ex) (hnot : (foldE x).op = 12 → ∃ z, foldE x = oneE 12 z) (ih : FoldC x) : FoldC (.node 12 0 [x]) := by
  intro S W v hv
  have ih : ∀ z ∈ [x], FoldC z := by intro z hz; (obtain rfl : z = x := by simpa using hz); exact ih
  obtain ⟨a, cap, hv0, hl, hm, had, wo, wn, hel⟩ := hv.els
  have hv1 : v = .agg #[.int .i64 12, .int .i64 0, .slice a 1 cap] := hv0
  clear hv0
  subst hv1
  unfold maxLen at hm
  have hl' : 1 ≤ cap := hl
  clear hl
  obtain ⟨i0, hi, hz0, hz1, hz2⟩ := info_parts info_expr3
  have hel0 := Lib.hid (show ∀ k : Nat, k < 1 → ∃ b off a' c', El S W a 1 cap k (nthE [x] k) b off a' c' from hel)
  clear hel
  obtain ⟨E, hE0⟩ : ∃ E, E = foldE (.node 12 0 [x]) := ⟨_, rfl⟩
  rw [← hE0]
  have HEQ := Lib.hid (show E = simpleE (.node 12 0 [foldE x]) from hE0)
  clear hE0
  go_enter Tryd.func37, Tryd.ntmps37
  go_wp2
  go_loopw [15] (fun i wr => ∃ k : Nat, k ≤ 1 ∧ i = .int .i64 k ∧ Below W.heap.size W wr ∧ ∃ (v' : Value) (us : List Tri) (T : Nat → Prop), Row wr W.heap.size 24 [.int .i64 12, .int .i64 0, v'] ∧ Row wr (W.heap.size + 1) 24 [.int .i64 0, .int .i64 0, .slice none 0 0] ∧
      Args3 T (W.heap.size + 2) wr v' us (foldL ([x].take k)) ∧ (∀ b, T b → W.heap.size + 2 ≤ b)) (fun i _ => 1 - (intOf i).toNat)
  case atStart =>
    refine ⟨0, by omega, rfl, ext_alloc' (ext_alloc W _) _, .slice none 0 0, [], fun _ => False, (row_new W [.int .i64 12, .int .i64 0, .slice none 0 0] _).alloc _, ?_, Args3.nil _ _, fun b h => h.elim⟩
    have := row_new (W.alloc (.cells #[.int .i64 12, .int .i64 0, .slice none 0 0] 24)) [.int .i64 0, .int .i64 0, .slice none 0 0] 24
    rwa [World.size_alloc] at this
  case round =>
    obtain ⟨k, hk, rfl, hb, v', us, T, hR, hR1, hA, hT⟩ := hrel
    by_cases hlt : k < 1
    · obtain ⟨b, off, a', c', hel⟩ := hel0.out k hlt
      have hel1 := hel.ext hb
      have q := hel1.idx
      have c0 := hel1.c0
      have c1 := hel1.c1
      have c2 := hel1.c2
      go_wp2_with fail
      have hlR := hR.lt
      have hlR1 := hR1.lt
      obtain ⟨w1, hw1⟩ : ∃ w1, w1 = wr.alloc (.cells #[.int .i64 (nthE [x] k).op, .int .i64 (nthE [x] k).num, .slice a' (nthE [x] k).args.length c'] 24) := ⟨_, rfl⟩
      rw [← hw1]
      have hb1 : Below wr.heap.size wr w1 := by rw [hw1]; exact ext_alloc wr _
      have hX1 : Row w1 wr.heap.size 24 [.int .i64 (nthE [x] k).op, .int .i64 (nthE [x] k).num, .slice a' (nthE [x] k).args.length c'] := by rw [hw1]; exact row_new wr _ _
      clear hw1 q c0 c1 c2
      have hlX := hX1.lt
      have hR2 := hR.ext hb1
      have hR12 := hR1.ext hb1
      have hA2 := (hA.bound).ext hb1
      obtain ⟨x0, x1, x2⟩ := hX1.three
      have ce := hR2.cell (j := 2) rfl
      have hex := hel1.ex.ext hb1
      have HK := Lib.hid (foldL_length ([x].take k))
      have HIH := Lib.hid (ih _ (nthE_mem (l := [x]) hlt))
      have IK := Lib.hid (fun W' (hW' : Below w1.heap.size w1 W') => HIH.out _ W' _ (hex.ext hW'))
      have hrefl := Below.refl w1.heap.size w1
      have hne : wr.heap.size ≠ W.heap.size := by omega
      have hkl : (foldL ([x].take k)).length ≤ 1 := by rw [HK.out, List.length_take]; simp; omega
      have B1 := Lib.hid (show (foldL ([x].take k)).length + 1 ≤ maxLen by unfold maxLen; omega)
      have B2 := Lib.hid (show ((foldL ([x].take k)).length + 1) * 40 ≤ 140737488355328 by omega)
      have hbs := hb.size
      have HNE := Lib.hid (show v'.ownBlock ≠ some W.heap.size from fun h => by have := (hA.own_lt _ h).1; omega)
      go_region_law
        (first
          | (go_simp; go_at_call 37; refine (IK.out _ (by first | assumption | (apply Below.drew; assumption))).mono ?_; rintro _ w5 ⟨v5, rfl, hb5, hx5⟩; obtain ⟨a5, c5, rfl, wo5, wn5, _⟩ := hx5.parts; have hbb : Below w1.heap.size w1 w5 := ext_trans (by first | assumption | (apply Below.drew; assumption)) hb5; have ce5 := cell_ext ce hbb; have OWN5 := Lib.hid (hA2.2.1 |> fun h => owns_ext h hbb); have hl5 : W.heap.size < w5.heap.size := Nat.lt_of_lt_of_le hR2.lt hbb.size)
          | (refine step_append_lies _ (by rfl) _ _ _ (by rfl) (W.heap.size + 2) 24 i0 _ 3 40 Tryd.underlying22 hi hz0 hz1 hz2 rfl (by decide) v' (foldL ([x].take k)).length (flat us) (by rfl) (by first | exact OWN5.out.alloc _ | exact (OWN5.out.alloc _).drew) ⟨w5.heap.size, 0, none⟩ 1 1 [.int .i64 (foldE (nthE [x] k)).op, .int .i64 (foldE (nthE [x] k)).num, .slice a5 (foldE (nthE [x] k)).args.length c5] (by rfl) (by rfl)
              (World.news_of_block (cs := #[.int .i64 (foldE (nthE [x] k)).op, .int .i64 (foldE (nthE [x] k)).num, .slice a5 (foldE (nthE [x] k)).args.length c5]) (t := 24) (fr := (0, 0)) (heap_alloc_new w5 _)) (by simp [Value.oneCell']) (by decide) B1.out B2.out (by simp; omega) (w5.heap.size + 1) (by simp) ?_; intro g6 cp6 w6 hown6 hgrow6 hat6 hlt6; have hR6 := Row.grown ((hR2.ext hbb).alloc (.cells #[.int .i64 (foldE (nthE [x] k)).op, .int .i64 (foldE (nthE [x] k)).num, .slice a5 (foldE (nthE [x] k)).args.length c5] 24)) hgrow6 HNE.out; have ce6 := hR6.cell (j := 2) rfl; have fr6 := hR6.free 2))
      all_goals
        have HRA := round_args (W := W) (base := W.heap.size + 2) (Bx := W.heap.size) (Nat.le_refl _) (by omega) (by have := hR1.lt; omega) hb hb1 hbb hR hA hT hx5 rfl hown6 hgrow6 hat6
        obtain ⟨hb7, hR7, hO7, T7, hA7, hT7⟩ := HRA
        have hR17 := hO7 _ _ _ (by omega) (by omega) hR1
        have HSN := Lib.hid (show foldL ([x].take (k + 1)) = (foldL ([x].take k)) ++ [(foldE (nthE [x] k))] by rw [take_nthE (l := [x]) hlt, foldL_map, foldL_map, List.map_append]; rfl)
        rw [← HSN.out] at hA7
        go_wp2
        go_roundw
        case rel => exact ⟨k + 1, by omega, by go_num, hb7, _, _, T7, hR7, hR17, hA7, hT7⟩
        case measure => simp [intOf]; omega
    · obtain rfl : k = 1 := by omega
      have hAy : Args3 T (W.heap.size + 2) wr v' us [foldE x] := hA
      clear hA
      have hE := hAy.expr wo wn
      obtain ⟨a2, cap2, he2, hl2, hm2, had2, _, _, hel2⟩ := hE.els
      unfold maxLen at hm2
      have hl2' : 1 ≤ cap2 := hl2
      have he3 : v' = .slice a2 1 cap2 := by have h : Value.agg #[.int .i64 12, .int .i64 0, v'] = .agg #[.int .i64 12, .int .i64 0, .slice a2 1 cap2] := he2; simpa using h
      clear he2 hl2
      subst he3
      obtain ⟨fb, fo, fa, fc, helF⟩ := hel2 0 (by simp)
      have helF' : El (fun b => T b ∨ (Value.slice a2 1 cap2).ownBlock = some b) wr a2 1 cap2 0 (foldE x) fb fo fa fc := helF
      clear helF hel2
      have hST : ∀ b, (T b ∨ (Value.slice a2 1 cap2).ownBlock = some b) → W.heap.size + 2 ≤ b := by rintro b (h | h); exact hT b h; exact (hAy.own_lt b h).1
      have hE' := hE.mono hST
      have hexF := helF'.ex.mono hST
      have qF := helF'.idx
      have f0 := helF'.c0
      have f1 := helF'.c1
      have f2 := helF'.c2
      obtain ⟨e0, e1, e2⟩ := hR.three
      have hlR := hR.lt
      have hlR1 := hR1.lt
      clear helF' hE hST hAy
      have nF := World.block_lt_of_cell? wr _ f0
      have hwr : IntKind.i64.wrap 0 = 0 := by decide
      have n1 := World.new_ne wr _ e2
      have n2 := World.new_ne wr _ f0
      have n3 := World.new_ne wr _ f1
      have n4 := World.new_ne wr _ f2
      go_wp2_with fail
      go_region_held3 (fun w' : World => w'.cell? ⟨W.heap.size, 2, none⟩ = some (.slice a2 1 cap2) ∧ w'.cell? ⟨fb, fo, none⟩ = some (.int .i64 (foldE x).op) ∧ w'.cell? ⟨fb, fo + 1, none⟩ = some (.int .i64 (foldE x).num) ∧ w'.cell? ⟨fb, fo + 2, none⟩ = some (.slice fa (foldE x).args.length fc)) (go_keep) (fail)
      · obtain ⟨w2, hw2⟩ : ∃ w2, w2 = ((wr.alloc (.cells #[.int .i64 (foldE x).op, .int .i64 (foldE x).num, .slice fa (foldE x).args.length fc] 24)).alloc (.cells #[.int .i64 (foldE x).op, .int .i64 (foldE x).num, .slice fa (foldE x).args.length fc] 24)).drew := ⟨_, rfl⟩
        rw [← hw2]
        have hb2 : Below wr.heap.size wr w2 := by rw [hw2]; exact (ext_alloc' (ext_alloc wr _) _).drew
        have rF : Row w2 wr.heap.size 24 [.int .i64 (foldE x).op, .int .i64 (foldE x).num, .slice fa (foldE x).args.length fc] := by rw [hw2]; exact (row_new wr [.int .i64 (foldE x).op, .int .i64 (foldE x).num, .slice fa (foldE x).args.length fc] 24).alloc _
        have rL : Row w2 (wr.heap.size + 1) 24 [.int .i64 (foldE x).op, .int .i64 (foldE x).num, .slice fa (foldE x).args.length fc] := by
          rw [hw2]
          have h := row_new (wr.alloc (.cells #[.int .i64 (foldE x).op, .int .i64 (foldE x).num, .slice fa (foldE x).args.length fc] 24)) [.int .i64 (foldE x).op, .int .i64 (foldE x).num, .slice fa (foldE x).args.length fc] 24
          rw [World.size_alloc] at h
          exact h
        clear hw2
        have eb := ext_trans hb hb2
        have rE := hR.ext hb2
        have rR := hR1.ext hb2
        have xE := hE'.ext hb2
        have xF := hexF.ext hb2
        have xL := hexF.ext hb2
        have s2 := hb2.size
        clear e0 e1 e2 f0 f1 f2 n1 n2 n3 n4 qF hwr
        obtain ⟨e0, e1, e2⟩ := rE.three
        obtain ⟨f0, f1, f2⟩ := rF.three
        obtain ⟨l0, l1, l2⟩ := rL.three
        obtain ⟨r0, r1, r2⟩ := rR.three
        have q0 := rR.free 0
        have q1 := rR.free 1
        have q2 := rR.free 2
        go_wp2_with fail
        refine (is_calls xF true).mono ?_
        rintro _ w3 ⟨_, rfl, hb3, rfl⟩
        have tb3 := hb3
        clear e0 e1 e2 f0 f1 f2 l0 l1 l2 r0 r1 r2 q0 q1 q2
        obtain ⟨e0, e1, e2⟩ := (rE.ext tb3).three
        obtain ⟨f0, f1, f2⟩ := (rF.ext tb3).three
        obtain ⟨l0, l1, l2⟩ := (rL.ext tb3).three
        obtain ⟨r0, r1, r2⟩ := (rR.ext tb3).three
        have q0 := (rR.ext tb3).free 0
        have q1 := (rR.ext tb3).free 1
        have q2 := (rR.ext tb3).free 2
        cases g3 : isE (foldE x) true with
        | true =>
          have G3 := Lib.hid g3
          clear g3
          go_wp2_with fail
          refine (is_calls (xF.ext tb3) false).mono ?_
          rintro _ w4 ⟨_, rfl, hb4, rfl⟩
          have tb4 := ext_trans tb3 hb4
          clear e0 e1 e2 f0 f1 f2 l0 l1 l2 r0 r1 r2 q0 q1 q2
          obtain ⟨e0, e1, e2⟩ := (rE.ext tb4).three
          obtain ⟨f0, f1, f2⟩ := (rF.ext tb4).three
          obtain ⟨l0, l1, l2⟩ := (rL.ext tb4).three
          obtain ⟨r0, r1, r2⟩ := (rR.ext tb4).three
          have q0 := (rR.ext tb4).free 0
          have q1 := (rR.ext tb4).free 1
          have q2 := (rR.ext tb4).free 2
          cases g4 : isE (foldE x) false with
          | true =>
            have G4 := Lib.hid g4
            clear g4
            go_wp2_with fail
            refine (constant_calls _ true).mono ?_
            rintro _ w5 ⟨v9, rfl, hb5, x9⟩
            have tb5 := ext_trans tb4 hb5
            have s9 := (tb4).size
            have x9' := x9.mono (S' := fun b => W.heap.size + 2 ≤ b) (by intro b h; omega)
            obtain ⟨K, hK⟩ : ∃ K, K = flagE true := ⟨_, rfl⟩
            rw [← hK] at x9'
            have HK := Lib.hid hK
            clear hK x9
            obtain ⟨a9, c9, rfl, _⟩ := x9'.parts
            clear e0 e1 e2 f0 f1 f2 l0 l1 l2 r0 r1 r2 q0 q1 q2
            obtain ⟨e0, e1, e2⟩ := (rE.ext tb5).three
            obtain ⟨f0, f1, f2⟩ := (rF.ext tb5).three
            obtain ⟨l0, l1, l2⟩ := (rL.ext tb5).three
            obtain ⟨r0, r1, r2⟩ := (rR.ext tb5).three
            have q0 := (rR.ext tb5).free 0
            have q1 := (rR.ext tb5).free 1
            have q2 := (rR.ext tb5).free 2
            go_wp2
            refine bodyPost_ret (v := .agg #[.int .i64 K.op, .int .i64 K.num, .slice a9 K.args.length c9]) (by simp [results, Tryd.results37, go_sem, r0, r1, r2]) rfl ?_
            rw [show E = _ from (HEQ.out.trans (by rw [simple_not, nthE_one, if_pos (.inl G3.out), G4.out])).trans HK.out.symm]
            exact .mk (set3_below _ _ _ (ext_trans eb tb5) (by omega)) ((set3_expr _ _ _ x9' (by omega)).mono fun b h => by omega)
          | false =>
            have G4 := Lib.hid g4
            clear g4
            go_wp2_with fail
            refine (constant_calls _ false).mono ?_
            rintro _ w6 ⟨v9, rfl, hb6, x9⟩
            have tb6 := ext_trans tb4 hb6
            have s9 := (tb4).size
            have x9' := x9.mono (S' := fun b => W.heap.size + 2 ≤ b) (by intro b h; omega)
            obtain ⟨K, hK⟩ : ∃ K, K = flagE false := ⟨_, rfl⟩
            rw [← hK] at x9'
            have HK := Lib.hid hK
            clear hK x9
            obtain ⟨a9, c9, rfl, _⟩ := x9'.parts
            clear e0 e1 e2 f0 f1 f2 l0 l1 l2 r0 r1 r2 q0 q1 q2
            obtain ⟨e0, e1, e2⟩ := (rE.ext tb6).three
            obtain ⟨f0, f1, f2⟩ := (rF.ext tb6).three
            obtain ⟨l0, l1, l2⟩ := (rL.ext tb6).three
            obtain ⟨r0, r1, r2⟩ := (rR.ext tb6).three
            have q0 := (rR.ext tb6).free 0
            have q1 := (rR.ext tb6).free 1
            have q2 := (rR.ext tb6).free 2
            go_wp2
            refine bodyPost_ret (v := .agg #[.int .i64 K.op, .int .i64 K.num, .slice a9 K.args.length c9]) (by simp [results, Tryd.results37, go_sem, r0, r1, r2]) rfl ?_
            rw [show E = _ from (HEQ.out.trans (by rw [simple_not, nthE_one, if_pos (.inl G3.out), G4.out])).trans HK.out.symm]
            exact .mk (set3_below _ _ _ (ext_trans eb tb6) (by omega)) ((set3_expr _ _ _ x9' (by omega)).mono fun b h => by omega)
        | false =>
          have G3 := Lib.hid g3
          clear g3
          go_wp2_with fail
          refine (is_calls (xF.ext tb3) false).mono ?_
          rintro _ w7 ⟨_, rfl, hb7, rfl⟩
          have tb7 := ext_trans tb3 hb7
          clear e0 e1 e2 f0 f1 f2 l0 l1 l2 r0 r1 r2 q0 q1 q2
          obtain ⟨e0, e1, e2⟩ := (rE.ext tb7).three
          obtain ⟨f0, f1, f2⟩ := (rF.ext tb7).three
          obtain ⟨l0, l1, l2⟩ := (rL.ext tb7).three
          obtain ⟨r0, r1, r2⟩ := (rR.ext tb7).three
          have q0 := (rR.ext tb7).free 0
          have q1 := (rR.ext tb7).free 1
          have q2 := (rR.ext tb7).free 2
          cases g7 : isE (foldE x) false with
          | true =>
            have G7 := Lib.hid g7
            clear g7
            go_wp2_with fail
            refine (is_calls (xF.ext tb7) false).mono ?_
            rintro _ w8 ⟨_, rfl, hb8, rfl⟩
            have tb8 := ext_trans tb7 hb8
            clear e0 e1 e2 f0 f1 f2 l0 l1 l2 r0 r1 r2 q0 q1 q2
            obtain ⟨e0, e1, e2⟩ := (rE.ext tb8).three
            obtain ⟨f0, f1, f2⟩ := (rF.ext tb8).three
            obtain ⟨l0, l1, l2⟩ := (rL.ext tb8).three
            obtain ⟨r0, r1, r2⟩ := (rR.ext tb8).three
            have q0 := (rR.ext tb8).free 0
            have q1 := (rR.ext tb8).free 1
            have q2 := (rR.ext tb8).free 2
            cases g8 : isE (foldE x) false with
            | true =>
              have G8 := Lib.hid g8
              clear g8
              go_wp2_with fail
              refine (constant_calls _ true).mono ?_
              rintro _ w9 ⟨v9, rfl, hb9, x9⟩
              have tb9 := ext_trans tb8 hb9
              have s9 := (tb8).size
              have x9' := x9.mono (S' := fun b => W.heap.size + 2 ≤ b) (by intro b h; omega)
              obtain ⟨K, hK⟩ : ∃ K, K = flagE true := ⟨_, rfl⟩
              rw [← hK] at x9'
              have HK := Lib.hid hK
              clear hK x9
              obtain ⟨a9, c9, rfl, _⟩ := x9'.parts
              clear e0 e1 e2 f0 f1 f2 l0 l1 l2 r0 r1 r2 q0 q1 q2
              obtain ⟨e0, e1, e2⟩ := (rE.ext tb9).three
              obtain ⟨f0, f1, f2⟩ := (rF.ext tb9).three
              obtain ⟨l0, l1, l2⟩ := (rL.ext tb9).three
              obtain ⟨r0, r1, r2⟩ := (rR.ext tb9).three
              have q0 := (rR.ext tb9).free 0
              have q1 := (rR.ext tb9).free 1
              have q2 := (rR.ext tb9).free 2
              go_wp2
              refine bodyPost_ret (v := .agg #[.int .i64 K.op, .int .i64 K.num, .slice a9 K.args.length c9]) (by simp [results, Tryd.results37, go_sem, r0, r1, r2]) rfl ?_
              rw [show E = _ from (HEQ.out.trans (by rw [simple_not, nthE_one, if_pos (.inr G7.out), G8.out])).trans HK.out.symm]
              exact .mk (set3_below _ _ _ (ext_trans eb tb9) (by omega)) ((set3_expr _ _ _ x9' (by omega)).mono fun b h => by omega)
            | false =>
              have G8 := Lib.hid g8
              clear g8
              exact absurd (G7.out.symm.trans G8.out) (by simp)
          | false =>
            have G7 := Lib.hid g7
            clear g7
            by_cases h12 : (foldE x).op = 12
            · have d12 : ((foldE x).op == 12) = true := beq_iff_eq.2 h12
              obtain ⟨z, hz⟩ := hnot h12
              obtain ⟨cb, co, ca, cc, helc⟩ := el_one hz (xF.ext tb7)
              have qc := helc.idx
              have m0 := helc.c0
              have m1 := helc.c1
              have m2 := helc.c2
              have HXZ := Lib.hid hz
              have H12 := Lib.hid h12
              clear hz h12
              go_wp2
              refine bodyPost_ret (v := .agg #[.int .i64 z.op, .int .i64 z.num, .slice ca z.args.length cc]) (by simp [results, Tryd.results37, go_sem, r0, r1, r2]) rfl ?_
              rw [show E = _ from (HEQ.out.trans (by rw [simple_not, nthE_one, if_neg (by rw [G3.out, G7.out]; simp), if_pos H12.out, HXZ.out]; try rfl))]
              exact .mk (set3_below _ _ _ (ext_trans eb tb7) (by omega)) ((set3_expr _ _ _ helc.ex (by omega)).mono fun b h => by omega)
            · have d12 : ((foldE x).op == 12) = false := beq_eq_false_iff_ne.2 h12
              have H12 := Lib.hid h12
              clear h12
              go_wp2
              refine bodyPost_ret (v := .agg #[.int .i64 12, .int .i64 0, .slice a2 1 cap2]) (by simp [results, Tryd.results37, go_sem, r0, r1, r2]) rfl ?_
              rw [show E = _ from (HEQ.out.trans (by rw [simple_not, nthE_one, if_neg (by rw [G3.out, G7.out]; simp), if_neg H12.out]))]
              exact .mk (set3_below _ _ _ (ext_trans eb tb7) (by omega)) ((set3_expr _ _ _ (xE.ext tb7) (by omega)).mono fun b h => by omega)
      · obtain ⟨w2, hw2⟩ : ∃ w2, w2 = ((wr.alloc (.cells #[.int .i64 (foldE x).op, .int .i64 (foldE x).num, .slice fa (foldE x).args.length fc] 24)).alloc (.cells #[.int .i64 (foldE x).op, .int .i64 (foldE x).num, .slice fa (foldE x).args.length fc] 24)).drew := ⟨_, rfl⟩
        rw [← hw2]
        have hb2 : Below wr.heap.size wr w2 := by rw [hw2]; exact (ext_alloc' (ext_alloc wr _) _).drew
        have rL : Row w2 wr.heap.size 24 [.int .i64 (foldE x).op, .int .i64 (foldE x).num, .slice fa (foldE x).args.length fc] := by rw [hw2]; exact (row_new wr [.int .i64 (foldE x).op, .int .i64 (foldE x).num, .slice fa (foldE x).args.length fc] 24).alloc _
        have rF : Row w2 (wr.heap.size + 1) 24 [.int .i64 (foldE x).op, .int .i64 (foldE x).num, .slice fa (foldE x).args.length fc] := by
          rw [hw2]
          have h := row_new (wr.alloc (.cells #[.int .i64 (foldE x).op, .int .i64 (foldE x).num, .slice fa (foldE x).args.length fc] 24)) [.int .i64 (foldE x).op, .int .i64 (foldE x).num, .slice fa (foldE x).args.length fc] 24
          rw [World.size_alloc] at h
          exact h
        clear hw2
        have eb := ext_trans hb hb2
        have rE := hR.ext hb2
        have rR := hR1.ext hb2
        have xE := hE'.ext hb2
        have xF := hexF.ext hb2
        have xL := hexF.ext hb2
        have s2 := hb2.size
        clear e0 e1 e2 f0 f1 f2 n1 n2 n3 n4 qF hwr
        obtain ⟨e0, e1, e2⟩ := rE.three
        obtain ⟨f0, f1, f2⟩ := rF.three
        obtain ⟨l0, l1, l2⟩ := rL.three
        obtain ⟨r0, r1, r2⟩ := rR.three
        have q0 := rR.free 0
        have q1 := rR.free 1
        have q2 := rR.free 2
        go_wp2_with fail
        refine (is_calls xF true).mono ?_
        rintro _ w3 ⟨_, rfl, hb3, rfl⟩
        have tb3 := hb3
        clear e0 e1 e2 f0 f1 f2 l0 l1 l2 r0 r1 r2 q0 q1 q2
        obtain ⟨e0, e1, e2⟩ := (rE.ext tb3).three
        obtain ⟨f0, f1, f2⟩ := (rF.ext tb3).three
        obtain ⟨l0, l1, l2⟩ := (rL.ext tb3).three
        obtain ⟨r0, r1, r2⟩ := (rR.ext tb3).three
        have q0 := (rR.ext tb3).free 0
        have q1 := (rR.ext tb3).free 1
        have q2 := (rR.ext tb3).free 2
        cases g3 : isE (foldE x) true with
        | true =>
          have G3 := Lib.hid g3
          clear g3
          go_wp2_with fail
          refine (is_calls (xF.ext tb3) false).mono ?_
          rintro _ w4 ⟨_, rfl, hb4, rfl⟩
          have tb4 := ext_trans tb3 hb4
          clear e0 e1 e2 f0 f1 f2 l0 l1 l2 r0 r1 r2 q0 q1 q2
          obtain ⟨e0, e1, e2⟩ := (rE.ext tb4).three
          obtain ⟨f0, f1, f2⟩ := (rF.ext tb4).three
          obtain ⟨l0, l1, l2⟩ := (rL.ext tb4).three
          obtain ⟨r0, r1, r2⟩ := (rR.ext tb4).three
          have q0 := (rR.ext tb4).free 0
          have q1 := (rR.ext tb4).free 1
          have q2 := (rR.ext tb4).free 2
          cases g4 : isE (foldE x) false with
          | true =>
            have G4 := Lib.hid g4
            clear g4
            go_wp2_with fail
            refine (constant_calls _ true).mono ?_
            rintro _ w5 ⟨v9, rfl, hb5, x9⟩
            have tb5 := ext_trans tb4 hb5
            have s9 := (tb4).size
            have x9' := x9.mono (S' := fun b => W.heap.size + 2 ≤ b) (by intro b h; omega)
            obtain ⟨K, hK⟩ : ∃ K, K = flagE true := ⟨_, rfl⟩
            rw [← hK] at x9'
            have HK := Lib.hid hK
            clear hK x9
            obtain ⟨a9, c9, rfl, _⟩ := x9'.parts
            clear e0 e1 e2 f0 f1 f2 l0 l1 l2 r0 r1 r2 q0 q1 q2
            obtain ⟨e0, e1, e2⟩ := (rE.ext tb5).three
            obtain ⟨f0, f1, f2⟩ := (rF.ext tb5).three
            obtain ⟨l0, l1, l2⟩ := (rL.ext tb5).three
            obtain ⟨r0, r1, r2⟩ := (rR.ext tb5).three
            have q0 := (rR.ext tb5).free 0
            have q1 := (rR.ext tb5).free 1
            have q2 := (rR.ext tb5).free 2
            go_wp2
            refine bodyPost_ret (v := .agg #[.int .i64 K.op, .int .i64 K.num, .slice a9 K.args.length c9]) (by simp [results, Tryd.results37, go_sem, r0, r1, r2]) rfl ?_
            rw [show E = _ from (HEQ.out.trans (by rw [simple_not, nthE_one, if_pos (.inl G3.out), G4.out])).trans HK.out.symm]
            exact .mk (set3_below _ _ _ (ext_trans eb tb5) (by omega)) ((set3_expr _ _ _ x9' (by omega)).mono fun b h => by omega)
          | false =>
            have G4 := Lib.hid g4
            clear g4
            go_wp2_with fail
            refine (constant_calls _ false).mono ?_
            rintro _ w6 ⟨v9, rfl, hb6, x9⟩
            have tb6 := ext_trans tb4 hb6
            have s9 := (tb4).size
            have x9' := x9.mono (S' := fun b => W.heap.size + 2 ≤ b) (by intro b h; omega)
            obtain ⟨K, hK⟩ : ∃ K, K = flagE false := ⟨_, rfl⟩
            rw [← hK] at x9'
            have HK := Lib.hid hK
            clear hK x9
            obtain ⟨a9, c9, rfl, _⟩ := x9'.parts
            clear e0 e1 e2 f0 f1 f2 l0 l1 l2 r0 r1 r2 q0 q1 q2
            obtain ⟨e0, e1, e2⟩ := (rE.ext tb6).three
            obtain ⟨f0, f1, f2⟩ := (rF.ext tb6).three
            obtain ⟨l0, l1, l2⟩ := (rL.ext tb6).three
            obtain ⟨r0, r1, r2⟩ := (rR.ext tb6).three
            have q0 := (rR.ext tb6).free 0
            have q1 := (rR.ext tb6).free 1
            have q2 := (rR.ext tb6).free 2
            go_wp2
            refine bodyPost_ret (v := .agg #[.int .i64 K.op, .int .i64 K.num, .slice a9 K.args.length c9]) (by simp [results, Tryd.results37, go_sem, r0, r1, r2]) rfl ?_
            rw [show E = _ from (HEQ.out.trans (by rw [simple_not, nthE_one, if_pos (.inl G3.out), G4.out])).trans HK.out.symm]
            exact .mk (set3_below _ _ _ (ext_trans eb tb6) (by omega)) ((set3_expr _ _ _ x9' (by omega)).mono fun b h => by omega)
        | false =>
          have G3 := Lib.hid g3
          clear g3
          go_wp2_with fail
          refine (is_calls (xF.ext tb3) false).mono ?_
          rintro _ w7 ⟨_, rfl, hb7, rfl⟩
          have tb7 := ext_trans tb3 hb7
          clear e0 e1 e2 f0 f1 f2 l0 l1 l2 r0 r1 r2 q0 q1 q2
          obtain ⟨e0, e1, e2⟩ := (rE.ext tb7).three
          obtain ⟨f0, f1, f2⟩ := (rF.ext tb7).three
          obtain ⟨l0, l1, l2⟩ := (rL.ext tb7).three
          obtain ⟨r0, r1, r2⟩ := (rR.ext tb7).three
          have q0 := (rR.ext tb7).free 0
          have q1 := (rR.ext tb7).free 1
          have q2 := (rR.ext tb7).free 2
          cases g7 : isE (foldE x) false with
          | true =>
            have G7 := Lib.hid g7
            clear g7
            go_wp2_with fail
            refine (is_calls (xF.ext tb7) false).mono ?_
            rintro _ w8 ⟨_, rfl, hb8, rfl⟩
            have tb8 := ext_trans tb7 hb8
            clear e0 e1 e2 f0 f1 f2 l0 l1 l2 r0 r1 r2 q0 q1 q2
            obtain ⟨e0, e1, e2⟩ := (rE.ext tb8).three
            obtain ⟨f0, f1, f2⟩ := (rF.ext tb8).three
            obtain ⟨l0, l1, l2⟩ := (rL.ext tb8).three
            obtain ⟨r0, r1, r2⟩ := (rR.ext tb8).three
            have q0 := (rR.ext tb8).free 0
            have q1 := (rR.ext tb8).free 1
            have q2 := (rR.ext tb8).free 2
            cases g8 : isE (foldE x) false with
            | true =>
              have G8 := Lib.hid g8
              clear g8
              go_wp2_with fail
              refine (constant_calls _ true).mono ?_
              rintro _ w9 ⟨v9, rfl, hb9, x9⟩
              have tb9 := ext_trans tb8 hb9
              have s9 := (tb8).size
              have x9' := x9.mono (S' := fun b => W.heap.size + 2 ≤ b) (by intro b h; omega)
              obtain ⟨K, hK⟩ : ∃ K, K = flagE true := ⟨_, rfl⟩
              rw [← hK] at x9'
              have HK := Lib.hid hK
              clear hK x9
              obtain ⟨a9, c9, rfl, _⟩ := x9'.parts
              clear e0 e1 e2 f0 f1 f2 l0 l1 l2 r0 r1 r2 q0 q1 q2
              obtain ⟨e0, e1, e2⟩ := (rE.ext tb9).three
              obtain ⟨f0, f1, f2⟩ := (rF.ext tb9).three
              obtain ⟨l0, l1, l2⟩ := (rL.ext tb9).three
              obtain ⟨r0, r1, r2⟩ := (rR.ext tb9).three
              have q0 := (rR.ext tb9).free 0
              have q1 := (rR.ext tb9).free 1
              have q2 := (rR.ext tb9).free 2
              go_wp2
              refine bodyPost_ret (v := .agg #[.int .i64 K.op, .int .i64 K.num, .slice a9 K.args.length c9]) (by simp [results, Tryd.results37, go_sem, r0, r1, r2]) rfl ?_
              rw [show E = _ from (HEQ.out.trans (by rw [simple_not, nthE_one, if_pos (.inr G7.out), G8.out])).trans HK.out.symm]
              exact .mk (set3_below _ _ _ (ext_trans eb tb9) (by omega)) ((set3_expr _ _ _ x9' (by omega)).mono fun b h => by omega)
            | false =>
              have G8 := Lib.hid g8
              clear g8
              exact absurd (G7.out.symm.trans G8.out) (by simp)
          | false =>
            have G7 := Lib.hid g7
            clear g7
            by_cases h12 : (foldE x).op = 12
            · have d12 : ((foldE x).op == 12) = true := beq_iff_eq.2 h12
              obtain ⟨z, hz⟩ := hnot h12
              obtain ⟨cb, co, ca, cc, helc⟩ := el_one hz (xF.ext tb7)
              have qc := helc.idx
              have m0 := helc.c0
              have m1 := helc.c1
              have m2 := helc.c2
              have HXZ := Lib.hid hz
              have H12 := Lib.hid h12
              clear hz h12
              go_wp2
              refine bodyPost_ret (v := .agg #[.int .i64 z.op, .int .i64 z.num, .slice ca z.args.length cc]) (by simp [results, Tryd.results37, go_sem, r0, r1, r2]) rfl ?_
              rw [show E = _ from (HEQ.out.trans (by rw [simple_not, nthE_one, if_neg (by rw [G3.out, G7.out]; simp), if_pos H12.out, HXZ.out]; try rfl))]
              exact .mk (set3_below _ _ _ (ext_trans eb tb7) (by omega)) ((set3_expr _ _ _ helc.ex (by omega)).mono fun b h => by omega)
            · have d12 : ((foldE x).op == 12) = false := beq_eq_false_iff_ne.2 h12
              have H12 := Lib.hid h12
              clear h12
              go_wp2
              refine bodyPost_ret (v := .agg #[.int .i64 12, .int .i64 0, .slice a2 1 cap2]) (by simp [results, Tryd.results37, go_sem, r0, r1, r2]) rfl ?_
              rw [show E = _ from (HEQ.out.trans (by rw [simple_not, nthE_one, if_neg (by rw [G3.out, G7.out]; simp), if_neg H12.out]))]
              exact .mk (set3_below _ _ _ (ext_trans eb tb7) (by omega)) ((set3_expr _ _ _ (xE.ext tb7) (by omega)).mono fun b h => by omega)

end Go.Proofs.YthogcbffnbhalaaDoor

