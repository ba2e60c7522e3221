/- The program's Normal. -/
import Derived.Test.YtifcgcdbebgahaaClN2
namespace Go.Proofs.Ytifcgcdbebgahaa
set_option linter.unusedVariables false
open Go.RowKit Go.Shelf
attribute [local go_sem ↓] Go.wp_at_zero Go.wp_at_succ
attribute [local go_sem] Oper.semAt_some

theorem Row.putObj {w : World} {g : Nat} {e : TypeId} {xs : List Value} (h : Row w g e xs) {r : Nat} {o : Obj} (o' : Obj) (hr : w.heap[r]? = some o) (ho : o.isCells = false) : Row (w.putObj r o') g e xs := by
  refine h.grown (grownBy_putObj' w r o') fun e => ?_
  cases e
  unfold Row at h
  rw [hr] at h
  cases h
  cases ho
set_option maxRecDepth 100000 in
set_option maxHeartbeats 4000000 in
theorem normal_err {S : Nat → Prop} {w : World} {va : Value} {m : Mx} (ha : MatV S w va m) (hne : sizesS m ≠ 0) :
    Calls Try.prog 33 #[va] w (Post w (RetM w.heap.size (normalS m))) := by
  obtain ⟨cols, ll⟩ := m
  obtain ⟨ra, rfl, la⟩ := ha
  obtain ⟨aa, acap, rfl, aad, al1, alm⟩ := la.form
  dsimp only at la al1 aad ⊢
  have RR := Lib.hid (normalS_err hne)
  have ex := ext_alloc' (ext_alloc' (ext_alloc w (.cells #[.int .i64 cols, .slice aa ll.length acap] 24)) (.cells #[.int .i64 0, .slice none 0 0] 24)) (.cells #[.int .i64 0] 28)
  have r1 := (row_new (w.alloc (.cells #[.int .i64 cols, .slice aa ll.length acap] 24)) [.int .i64 0, .slice none 0 0] 24).alloc (.cells #[.int .i64 0] 28)
  have r2 := row_new ((w.alloc (.cells #[.int .i64 cols, .slice aa ll.length acap] 24)).alloc (.cells #[.int .i64 0, .slice none 0 0] 24)) [.int .i64 0] 28
  simp only [World.size_alloc] at r1 r2
  have KC := Lib.hid (size_calls (v := .agg #[.int .i64 cols, .slice aa ll.length acap]) (m := ⟨cols, ll⟩) ⟨_, rfl, la.ext ex⟩)
  obtain ⟨c1, hc1⟩ : ∃ c1, c1 = sizesS ⟨cols, ll⟩ := ⟨_, rfl⟩
  rw [← hc1] at KC hne RR
  clear hc1 la
  go_enter Try.func33, Try.ntmps33
  go_wp2_with fail
  refine KC.out.mono ?_
  rintro _ w1 ⟨_, rfl, hb1, rfl⟩
  have hx1 := ext_trans ex hb1
  have R1 := r1.ext hb1
  have R2 := r2.ext hb1
  obtain ⟨q10, q11⟩ := R1.two
  have q20 := R2.cell (j := 0) rfl
  have f10 := R1.free 0
  have f11 := R1.free 1
  have f20 := R2.free 0
  have e1 : (c1 != 0) = true := by simp [hne]
  have hl2 := R2.lt
  clear KC hne
  go_wp2
  refine bodyPost_ret (v := .tuple #[.agg #[.int .i64 0, .slice none 0 0], .int .i64 c1]) (by simp [results, Try.results33, go_sem, q10, q11, f10, f11, q20, f20]) rfl ?_
  exact .mk ((set2_below _ _ hx1 (by omega)).setCell (by simp; omega) _) (.none RR.out)
set_option maxRecDepth 100000 in
set_option maxHeartbeats 8000000 in
theorem normal_ok {S : Nat → Prop} {w : World} {va : Value} {m : Mx} (ha : MatV S w va m) (h0 : sizesS m = 0) (hrl : ∀ r ∈ m.rows, r.length ≤ 100000) :
    Calls Try.prog 33 #[va] w (Post w (RetM w.heap.size (normalS m))) := by
  obtain ⟨cols, ll⟩ := m
  obtain ⟨ra, rfl, la⟩ := ha
  obtain ⟨aa, acap, rfl, aad, al1, alm⟩ := la.form
  dsimp only at la al1 aad hrl ⊢
  have hsz := sizesS_zero.1 h0
  dsimp only at hsz
  obtain ⟨⟨hc0, hc1⟩, hln⟩ := hsz
  have ex := ext_alloc' (ext_alloc' (ext_alloc w (.cells #[.int .i64 cols, .slice aa ll.length acap] 24)) (.cells #[.int .i64 0, .slice none 0 0] 24)) (.cells #[.int .i64 0] 28)
  have r0 := ((row_new w [.int .i64 cols, .slice aa ll.length acap] 24).alloc (.cells #[.int .i64 0, .slice none 0 0] 24)).alloc (.cells #[.int .i64 0] 28)
  have r1 := (row_new (w.alloc (.cells #[.int .i64 cols, .slice aa ll.length acap] 24)) [.int .i64 0, .slice none 0 0] 24).alloc (.cells #[.int .i64 0] 28)
  have r2 := row_new ((w.alloc (.cells #[.int .i64 cols, .slice aa ll.length acap] 24)).alloc (.cells #[.int .i64 0, .slice none 0 0] 24)) [.int .i64 0] 28
  simp only [World.size_alloc] at r1 r2
  have KC := Lib.hid (size_calls (v := .agg #[.int .i64 cols, .slice aa ll.length acap]) (m := ⟨cols, ll⟩) ⟨_, rfl, la.ext ex⟩)
  rw [h0] at KC
  have H0 := Lib.hid h0
  have LA := Lib.hid la
  have HRL := Lib.hid hrl
  clear h0 la hrl
  refine (callsIn_wide (n := 6)).1 ?_
  refine callsIn_of_wp_marks Try.func33 rfl trivial ?_ rfl
  simp only [Try.ntmps33, List.size_toArray, List.length_cons, List.length_nil, Nat.reduceAdd, Nat.reduceSub, Array.replicate_succ, Array.replicate_zero, List.push_toArray, List.append_toArray, List.nil_append, List.cons_append]
  gi_wp2_with fail
  refine ⟨trivial, (callsIn_wide.2 KC.out).mono ?_⟩
  rintro _ w1 ⟨_, rfl, hb1, rfl⟩
  have hx1 := ext_trans ex hb1
  have R0 := r0.ext hb1
  have R1 := r1.ext hb1
  have R2 := r2.ext hb1
  clear KC r0 r1 r2 ex hb1
  obtain ⟨q00, q01⟩ := R0.two
  have z0 := R0.lt
  have KL := Lib.hid (literals_calls w1 (a := aa) (n := ll.length) (c := acap))
  gi_wp2_with fail
  refine ⟨trivial, (callsIn_wide.2 KL.out).mono ?_⟩
  rintro _ _ ⟨rfl, rfl⟩
  have RB := row_new w1 [.slice aa ll.length acap] 22
  have hx3 := ext_alloc' hx1 (.cells #[.slice aa ll.length acap] 22)
  have R0 := R0.alloc (.cells #[.slice aa ll.length acap] 22)
  have R1 := R1.alloc (.cells #[.slice aa ll.length acap] 22)
  have R2 := R2.alloc (.cells #[.slice aa ll.length acap] 22)
  obtain ⟨B1, hB1⟩ : ∃ B1, B1 = w1.heap.size := ⟨_, rfl⟩
  obtain ⟨w3, hw3⟩ : ∃ w3, w3 = w1.alloc (.cells #[.slice aa ll.length acap] 22) := ⟨_, rfl⟩
  rw [← hB1] at RB ⊢
  rw [← hw3] at RB hx3 R0 R1 R2 ⊢
  have zB := RB.lt
  clear q00 q01 hw3 KL hx1
  gi_wp2_with fail
  rw [← hB1]
  have HST := literals_stops (n := 5) (by decide) RB (LA.out.ext hx3)
  have HBAD := Lib.hid (badN_false (n := cols) (rows := ll))
  have RR := Lib.hid hx3
  have zw := hx3.size
  have y1 := R1.lt
  have y2 := R2.lt
  clear hB1
  refine wpIn_rangeFunc_ownF (n := 6) rfl (by decide) (gf := 79) (lb := #[.pointer (some ⟨B1, 0, none⟩)]) rfl trivial (enters_of Try.func79 (by kernel_rfl) rfl)
    HST belowK_t (belowK_b (Nat.le_refl _)) (Below.refl _ _) (fun _ => rfl)
    (fun (pre : List Lit2) W => (∀ x ∈ pre, goodP cols x.1.2 = true) ∧ Below w3.heap.size w3 W)
    (fun c (pre : List Lit2) W => c = .ret ∧ (∃ x ∈ pre, goodP cols x.1.2 = false) ∧ Row W (w.heap.size + 1) 24 [.int .i64 0, .slice none 0 0] ∧ Row W (w.heap.size + 1 + 1) 28 [.int .i64 2] ∧ Below w.heap.size w W)
    (OwnFrom.and (ownFrom_pure _ _) (ownFrom_below (Nat.le_refl _) (Nat.le_refl _)))
    (fun c => OwnFrom.and (ownFrom_pure _ _) (OwnFrom.and (ownFrom_pure _ _) (fun s A B row hs hg hr => ⟨hs.1.grown hg (fun e => by have := (hr _ e).1; omega), hs.2.1.grown hg (fun e => by have := (hr _ e).1; omega), hs.2.2.grown hg hs.2.2.size (fun k e => by have := (hr k e).1; omega)⟩)))
    ⟨by simp, Below.refl _ _⟩
    (fun x => { tmps := #[Value.agg #[Value.int IntKind.i64 cols, Value.slice aa ll.length acap],
          Value.pointer (some ⟨w.heap.size, 0, none⟩),
          Value.pointer (some ⟨w.heap.size + 1, 0, none⟩),
          Value.pointer (some ⟨w.heap.size + 1 + 1, 0, none⟩), Value.int IntKind.i64 0, undef, Value.int IntKind.i64 x.1.2, undef,
          undef, undef, Value.agg #[Value.int IntKind.i64 cols, Value.slice aa ll.length acap], Value.int IntKind.i64 0,
          Value.int IntKind.i64 0, Value.bool false, undef, undef,
          Value.pointer (some ⟨w.heap.size, 1, none⟩), Value.slice aa ll.length acap,
          Value.func (Fn.func 79) #[] #[Value.pointer (some ⟨B1, 0, none⟩)], Value.int IntKind.i64 x.1.1, Value.int IntKind.i64 x.1.2, undef,
          undef, undef, undef, undef, undef, undef, undef, undef, undef, undef, undef, undef, undef, undef, undef,
          undef, undef, undef], defers := [] }) ?assign ?body ?done ?stop
  case assign =>
    intro l x W K hK
    gi_wp2
    exact hK
  case body =>
    rintro l pre ⟨⟨xi, x⟩, hwx⟩ W ⟨hgd, hB⟩ hlen
    dsimp only at hwx ⊢
    have P0 := R0.ext hB
    have P1 := R1.ext hB
    have P2 := R2.ext hB
    have HGD := Lib.hid hgd
    have HIF := Lib.hid (varP_iff (n := cols) (by omega) hwx)
    obtain ⟨v, hv⟩ : ∃ v, v = varP x := ⟨_, rfl⟩
    have HV := Lib.hid (fun W => (hv ▸ (variable_quiet W x).mono fun _ _ h => h.take : Calls Try.prog 43 #[.int .i64 x] W fun e W' => ∃ u, e = .returned u ∧ QW W W' ∧ u = .int .i64 v))
    rw [← hv] at HIF
    clear hgd hv hlen
    gi_wp2_with fail
    refine ⟨trivial, (CallsIn.inRound l (callsIn_wide.2 (HV.out W))).mono ?_⟩
    rintro _ w5 ⟨_, rfl, hq5, rfl⟩
    obtain ⟨nq, rfl⟩ := hq5
    have hq5 : QW W (W.drewN nq) := ⟨nq, rfl⟩
    have hKO : KeepsOthers W (W.drewN nq) := ⟨Nat.le_refl _, fun _ _ h _ => h⟩
    have P0 := P0.ext hq5.ext
    have P1 := P1.ext hq5.ext
    have P2 := P2.ext hq5.ext
    have hB5 := hB.trans (drewN_below w3.heap.size W nq)
    obtain ⟨w5, hw5⟩ : ∃ w5, w5 = W.drewN nq := ⟨_, rfl⟩
    rw [← hw5] at P0 P1 P2 hB5 hKO hq5 ⊢
    clear hw5
    obtain ⟨q0, q1⟩ := P0.two
    obtain ⟨q10, q11⟩ := P1.two
    have q20 := P2.cell (j := 0) rfl
    have f10 := P1.free 0
    have f11 := P1.free 1
    have f20 := P2.free 0
    have z0 := P0.lt
    have z1 := P1.lt
    have z2 := P2.lt
    have fin : ∀ (W' : World), W' = ((w5.setCell ⟨w.heap.size + 1, 0, none⟩ (.int .i64 0)).setCell ⟨w.heap.size + 1, 1, none⟩ (.slice none 0 0)).setCell ⟨w.heap.size + 1 + 1, 0, none⟩ (.int .i64 2) → KeepsOthers W W' ∧ Row W' (w.heap.size + 1) 24 [.int .i64 0, .slice none 0 0] ∧ Row W' (w.heap.size + 1 + 1) 28 [.int .i64 2] ∧ Below w.heap.size w W' := fun W' h => by
      subst h
      have hx5 : Below w.heap.size w w5 := RR.out.trans (hB5.mono zw)
      exact ⟨((hKO.trans (.setCell _ _ _)).trans (.setCell _ _ _)).trans (.setCell _ _ _), (row_set2 P1 _ _).grown (grownBy_setCell _ _ _ _) (fun e => by have := Option.some.inj e; omega), ((P2.grown (grownBy_setCell _ _ _ _) (fun e => by have := Option.some.inj e; omega)).grown (grownBy_setCell _ _ _ _) (fun e => by have := Option.some.inj e; omega)).set 0 _, (set2_below _ _ hx5 (by omega)).setCell (by simp; omega) _⟩
    have FIN := Lib.hid fin
    clear fin P0 P1 P2
    by_cases h1 : v < 1
    · have hb : goodP cols x = false := by
        cases e : goodP cols x with
        | false => rfl
        | true => exact absurd (.inl h1) (HIF.out.1 e)
      have HBB := Lib.hid hb
      clear hb
      gi_wp2
      obtain ⟨g1, g2, g3, g4⟩ := FIN.out _ rfl
      exact ⟨g1, rfl, ⟨_, List.mem_append.2 (.inr (List.mem_singleton.2 rfl)), HBB.out⟩, g2, g3, g4⟩
    by_cases h2 : cols < v
    · have hb : goodP cols x = false := by
        cases e : goodP cols x with
        | false => rfl
        | true => exact absurd (.inr h2) (HIF.out.1 e)
      have HBB := Lib.hid hb
      clear hb
      gi_wp2
      obtain ⟨g1, g2, g3, g4⟩ := FIN.out _ rfl
      exact ⟨g1, rfl, ⟨_, List.mem_append.2 (.inr (List.mem_singleton.2 rfl)), HBB.out⟩, g2, g3, g4⟩
    · have HBB := Lib.hid (HIF.out.2 (by omega))
      gi_wp2
      refine ⟨hKO, hq5.ext.mono hB.size, fun z hz => ?_, hB5⟩
      rcases List.mem_append.1 hz with h | h
      · exact HGD.out z h
      · rw [List.mem_singleton.1 h]; exact HBB.out
  case stop =>
    rintro D c pre W hD hSp ⟨rfl, ⟨x, hx, hxb⟩, P1, P2, hBw⟩ hK
    have hbad : badN cols ll = true := by
      unfold badN
      rw [List.any_eq_true]
      refine ⟨x.1.2, hSp.subset (List.mem_map.2 ⟨x, hx, rfl⟩), by rw [hxb]; rfl⟩
    have RN := Lib.hid (normalS_bad H0.out hbad)
    gi_wp2
    refine ⟨by simp, .inl ⟨_, _, rfl, run_takeDeferred hK, ?_⟩⟩
    have P9 := P1.putObj (.deferred none) hK rfl
    have P29 := P2.putObj (.deferred none) hK rfl
    have hB9 := hBw.grown (grownBy_putObj' _ D (.deferred none)) hBw.size (fun k hk => by cases hk; omega)
    obtain ⟨q90, q91⟩ := P9.two
    have q92 := P29.cell (j := 0) rfl
    obtain ⟨w9, hw9⟩ : ∃ w9, w9 = W.putObj D (.deferred none) := ⟨_, rfl⟩
    rw [← hw9] at hB9 q90 q91 q92 ⊢
    exact ⟨.tuple #[.agg #[.int .i64 0, .slice none 0 0], .int .i64 2], by simp [results, Try.results33, go_sem, q90, q91, q92], .mk hB9 (.none RN.out)⟩
  case done =>
    rintro D xs W hD hS ⟨hgd, hB⟩ hK
    have hgood : ∀ r ∈ ll, ∀ y ∈ r, goodP cols y = true := fun r hr y hy => by
      have : y ∈ xs.map (fun x => x.1.2) := by rw [hS]; exact List.mem_flatten.2 ⟨r, hr, hy⟩
      obtain ⟨z, hz, rfl⟩ := List.mem_map.1 this
      exact hgd z hz
    have RN := Lib.hid (normalS_ok H0.out (HBAD.out.2 hgood))
    have HGD := Lib.hid hgood
    have P0 := R0.ext hB
    have P1 := R1.ext hB
    have P2 := R2.ext hB
    have hBw : Below w.heap.size w W := RR.out.trans (hB.mono zw)
    obtain ⟨q00, q01⟩ := P0.two
    have y0 := P0.lt
    have RP := row_new W [.slice none 0 0] 22
    have hBP := ext_alloc' hBw (.cells #[.slice none 0 0] 22)
    have hWz : w.heap.size ≤ W.heap.size := hBw.size
    have KA := Lib.hid (applyNorm_calls (P := W.heap.size) (n := cols) ((LA.out.block).ext hBP) (fun b hb => by have h9 : b < w.heap.size := hb.2; omega) (by omega) HRL.out (by omega) HGD.out RP)
    have P1 := P1.alloc (.cells #[.slice none 0 0] 22)
    have P2 := P2.alloc (.cells #[.slice none 0 0] 22)
    have P0 := P0.alloc (.cells #[.slice none 0 0] 22)
    have hKD : (W.alloc (.cells #[.slice none 0 0] 22)).heap[D]? = some (.deferred (some [])) := by
      have hl := (Array.getElem?_eq_some_iff.1 hK).1
      exact (heap_alloc_old W _ hl).trans hK
    obtain ⟨D2, hD2⟩ : ∃ D2, D2 = normP ll := ⟨_, rfl⟩
    dsimp only at RN
    rw [← hD2] at KA RN
    clear hgd hgood HGD hD2 hS
    gi_wp2_with fail
    refine ⟨trivial, (callsIn_wide.2 KA.out).mono ?_⟩
    rintro _ w5 ⟨v5, rfl, hb5, hL5⟩
    have hAg : Agree (fun b => b < W.heap.size) (W.alloc (.cells #[.slice none 0 0] 22)) w5 := .of_below hb5 fun b hb _ => hb
    have hD0 : D < W.heap.size := (Array.getElem?_eq_some_iff.1 hK).1
    have y2w := P2.lt
    have P0 := P0.agree hAg (by omega)
    have P1 := P1.agree hAg (by omega)
    have P2 := P2.agree hAg (by omega)
    have hK5 : w5.heap[D]? = some (.deferred (some [])) := (hAg.block D hD0 (Array.getElem?_eq_some_iff.1 hKD).1).trans hKD
    have hB5 : Below w.heap.size w w5 := hBP.trans (hb5.mono hWz)
    obtain ⟨a5, c5, rfl, _⟩ := hL5.form
    have HL5 := Lib.hid hL5
    obtain ⟨q00, q01⟩ := P0.two
    obtain ⟨q10, q11⟩ := P1.two
    have q20 := P2.cell (j := 0) rfl
    have f10 := P1.free 0
    have f11 := P1.free 1
    have f20 := P2.free 0
    have z0 := P0.lt
    have z1 := P1.lt
    have z2 := P2.lt
    obtain ⟨w9, hw9⟩ : ∃ w9, w9 = ((w5.setCell ⟨w.heap.size + 1, 0, none⟩ (.int .i64 cols)).setCell ⟨w.heap.size + 1, 1, none⟩ (.slice a5 D2.length c5)).setCell ⟨w.heap.size + 1 + 1, 0, none⟩ (.int .i64 0) := ⟨_, rfl⟩
    have hKO : KeepsOthers w5 w9 := by rw [hw9]; exact ((KeepsOthers.setCell _ _ _).trans (.setCell _ _ _)).trans (.setCell _ _ _)
    have hK9 : w9.heap[D]? = some (.deferred (some [])) := hKO.same D _ hK5 rfl
    have P9 : Row w9 (w.heap.size + 1) 24 [.int .i64 cols, .slice a5 D2.length c5] := by rw [hw9]; exact (row_set2 P1 _ _).grown (grownBy_setCell _ _ _ _) (fun e => by have := Option.some.inj e; omega)
    have P29 : Row w9 (w.heap.size + 1 + 1) 28 [.int .i64 0] := by rw [hw9]; exact ((P2.grown (grownBy_setCell _ _ _ _) (fun e => by have := Option.some.inj e; omega)).grown (grownBy_setCell _ _ _ _) (fun e => by have := Option.some.inj e; omega)).set 0 _
    have hB9 : Below w.heap.size w w9 := by rw [hw9]; exact (set2_below _ _ hB5 (by omega)).setCell (by simp; omega) _
    have hL9 : Lists (fun b => W.heap.size < b) w9 (.slice a5 D2.length c5) D2 := by
      rw [hw9]
      exact ((HL5.out.agree (.of_grown (grownBy_setCell _ _ _ _) fun b hb e => by have := Option.some.inj e; omega)).agree (.of_grown (grownBy_setCell _ _ _ _) fun b hb e => by have := Option.some.inj e; omega)).agree (.of_grown (grownBy_setCell _ _ _ _) fun b hb e => by have := Option.some.inj e; omega)
    have HW9 := Lib.hid hw9
    have HFIN := Lib.hid (And.intro P9 (And.intro P29 (And.intro hB9 (And.intro hL9 hK9))))
    clear hw9 P9 P29 hB9 hL9 hK9 hKO P0 P1 P2 hL5 KA
    gi_wp2
    rw [← HW9.out]
    obtain ⟨P9, P29, hB9, hL9, hK9⟩ := HFIN.out
    refine ⟨by simp, .inl ⟨_, _, rfl, run_takeDeferred hK9, ?_⟩⟩
    have P9 := P9.putObj (.deferred none) hK9 rfl
    have P29 := P29.putObj (.deferred none) hK9 rfl
    have hB10 := hB9.grown (grownBy_putObj' _ D (.deferred none)) hB9.size (fun k hk => by cases hk; omega)
    have hL10 := hL9.agree (.of_grown (grownBy_putObj' w9 D (.deferred none)) fun b hb e => by have := Option.some.inj e; omega)
    obtain ⟨q90, q91⟩ := P9.two
    have q92 := P29.cell (j := 0) rfl
    obtain ⟨w10, hw10⟩ : ∃ w10, w10 = w9.putObj D (.deferred none) := ⟨_, rfl⟩
    rw [← hw10] at hB10 hL10 q90 q91 q92 ⊢
    exact ⟨.tuple #[.agg #[.int .i64 cols, .slice a5 D2.length c5], .int .i64 0], by simp [results, Try.results33, go_sem, q90, q91, q92], .mk hB10 (.mk RN.out (hL10.mono fun b hb => by omega))⟩
theorem normal_calls {S : Nat → Prop} {w : World} {va : Value} {m : Mx} (ha : MatV S w va m) (hrl : sizesS m = 0 → ∀ r ∈ m.rows, r.length ≤ 100000) :
    Calls Try.prog 33 #[va] w (Post w (RetM w.heap.size (normalS m))) := by
  by_cases h : sizesS m = 0
  · exact normal_ok ha h (hrl h)
  · exact normal_err ha h
end Go.Proofs.Ytifcgcdbebgahaa
