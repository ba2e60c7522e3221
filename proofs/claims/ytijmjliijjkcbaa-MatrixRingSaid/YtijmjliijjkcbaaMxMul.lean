/- The product of two matrices. Printed by mul05.py. -/
import Derived.Test.YtijmjliijjkcbaaMxProd
namespace Go.Proofs.Ytijmjliijjkcbaa
set_option linter.unusedVariables false
open Go.RowKit Go.Shelf
attribute [local go_sem ↓] Go.wp_at_zero Go.wp_at_succ
attribute [local go_sem] Oper.semAt_some

def mulS (a b : Mx) : Mx × Int := if bothM a b ≠ 0 then (⟨0, []⟩, bothM a b) else if a.cols ≠ b.rows.length then (⟨0, []⟩, 15) else (⟨b.cols, timesRows a.rows b.rows⟩, 0)
theorem mulS_err {a b : Mx} (h : bothM a b ≠ 0) : mulS a b = (⟨0, []⟩, bothM a b) := by unfold mulS; rw [if_pos h]
theorem mulS_shape {a b : Mx} (h : bothM a b = 0) (h2 : a.cols ≠ b.rows.length) : mulS a b = (⟨0, []⟩, 15) := by unfold mulS; rw [if_neg (by simp [h]), if_pos h2]
theorem mulS_ok {a b : Mx} (h : bothM a b = 0) (h1 : a.cols = b.rows.length) : mulS a b = (⟨b.cols, timesRows a.rows b.rows⟩, 0) := by unfold mulS; rw [if_neg (by simp [h]), if_neg (by simp [h1])]

set_option maxRecDepth 100000 in
theorem products_calls (w : World) (ac bc : Int) (av bv : Value) : Calls Try.prog 63 #[.agg #[.int .i64 ac, av], .agg #[.int .i64 bc, bv]] w fun e w' =>
    e = .returned (.func (.func 73) #[] #[.pointer (some ⟨w.heap.size, 0, none⟩), .pointer (some ⟨w.heap.size + 1, 0, none⟩)]) ∧ w' = (w.alloc (.cells #[.int .i64 ac, av] 24)).alloc (.cells #[.int .i64 bc, bv] 24) := by
  go_enter Try.func63, Try.ntmps63
  go_wp2
  go_ret
  exact ⟨rfl, rfl⟩

set_option maxRecDepth 100000 in
set_option maxHeartbeats 4000000 in
theorem multiply_err {S S' : Nat → Prop} {w : World} {va vb : Value} {a b : Mx} (ha : MatV S w va a) (hb : MatV S' w vb b) (hne : ¬ (bothM a b = 0 ∧ a.cols = b.rows.length)) :
    Calls Try.prog 43 #[va, vb] w (Post w (RetM w.heap.size (mulS a b))) := by
  obtain ⟨ac, al⟩ := a
  obtain ⟨bc, bl⟩ := b
  obtain ⟨ra, rfl, la⟩ := ha
  obtain ⟨rb, rfl, lb⟩ := hb
  obtain ⟨aa, acap, rfl, aad, al1, alm⟩ := la.form
  obtain ⟨ba, bcap, rfl, bad, bl1, blm⟩ := lb.form
  dsimp only at la lb al1 bl1 aad bad hne ⊢
  unfold maxLen at alm blm
  have ex : Below w.heap.size w (((w.alloc (.cells #[.int .i64 ac, .slice aa al.length acap] 24)).alloc (.cells #[.int .i64 bc, .slice ba bl.length bcap] 24)).alloc (.cells #[.int .i64 0, .slice none 0 0] 24)) := ext_alloc' (ext_alloc' (ext_alloc w _) _) _
  have r0 := ((row_new w [.int .i64 ac, .slice aa al.length acap] 24).alloc (.cells #[.int .i64 bc, .slice ba bl.length bcap] 24)).alloc (.cells #[.int .i64 0, .slice none 0 0] 24)
  have r1 := (row_new (w.alloc (.cells #[.int .i64 ac, .slice aa al.length acap] 24)) [.int .i64 bc, .slice ba bl.length bcap] 24).alloc (.cells #[.int .i64 0, .slice none 0 0] 24)
  have r2 := row_new ((w.alloc (.cells #[.int .i64 ac, .slice aa al.length acap] 24)).alloc (.cells #[.int .i64 bc, .slice ba bl.length bcap] 24)) [.int .i64 0, .slice none 0 0] 24
  simp only [World.size_alloc] at r1 r2
  have KB := Lib.hid (both_calls (va := .agg #[.int .i64 ac, .slice aa al.length acap]) (vb := .agg #[.int .i64 bc, .slice ba bl.length bcap]) (a := ⟨ac, al⟩) (b := ⟨bc, bl⟩) ⟨_, rfl, la.ext ex⟩ ⟨_, rfl, lb.ext ex⟩)
  go_enter Try.func43, Try.ntmps43
  go_wp2_with fail
  refine KB.out.mono ?_
  rintro _ w1 ⟨_, rfl, hb1, rfl⟩
  have hx1 := ext_trans ex hb1
  have R0 := r0.ext hb1
  have R1 := r1.ext hb1
  have R2 := r2.ext hb1
  clear KB r0 r1 r2 ex
  obtain ⟨q00, q01⟩ := R0.two
  obtain ⟨q10, q11⟩ := R1.two
  obtain ⟨q20, q21⟩ := R2.two
  have f20 := R2.free 0
  have f21 := R2.free 1
  have z2 := R2.lt
  have z1 := R1.lt
  have z0 := R0.lt
  by_cases h1 : ¬ bothM ⟨ac, al⟩ ⟨bc, bl⟩ = 0
  · have e1 : (bothM ⟨ac, al⟩ ⟨bc, bl⟩ != 0) = true := by simp [h1]
    have R := Lib.hid (mulS_err h1)
    clear h1
    go_wp2
    refine bodyPost_ret (v := .tuple #[.agg #[.int .i64 0, .slice none 0 0], .int .i64 (bothM ⟨ac, al⟩ ⟨bc, bl⟩)]) (by simp [results, Try.results43, go_sem, q20, q21, f20, f21]) rfl ?_
    exact .mk (set2_below _ _ hx1 (by omega)) (.none R.out)
  have h1 := Classical.not_not.1 h1
  have e1 : (bothM ⟨ac, al⟩ ⟨bc, bl⟩ != 0) = false := by simp [h1]
  have hsh : ac ≠ al.length ∨ True := .inr trivial
  have hsh : ac ≠ (bl.length : Int) := fun h => hne ⟨h1, h⟩
  have R : Hid (mulS ⟨ac, al⟩ ⟨bc, bl⟩ = (⟨0, []⟩, 15)) := Lib.hid (mulS_shape h1 hsh)
  have e2 : (ac != (bl.length : Int)) = true := by simp [hsh]
  clear hsh h1 hne
  go_wp2
  refine bodyPost_ret (v := .tuple #[.agg #[.int .i64 0, .slice none 0 0], .int .i64 15]) (by simp [results, Try.results43, go_sem, q20, q21, f20, f21]) rfl ?_
  exact .mk (set2_below _ _ hx1 (by omega)) (.none R.out)

set_option maxRecDepth 100000 in
set_option maxHeartbeats 4000000 in
theorem multiply_ok {S S' : Nat → Prop} {w : World} {va vb : Value} {a b : Mx} (ha : MatV S w va a) (hb : MatV S' w vb b) (h1 : bothM a b = 0) (h2 : a.cols = b.rows.length) :
    Calls Try.prog 43 #[va, vb] w (Post w (RetM w.heap.size (mulS a b))) := by
  obtain ⟨ac, al⟩ := a
  obtain ⟨bc, bl⟩ := b
  obtain ⟨ra, rfl, la⟩ := ha
  obtain ⟨rb, rfl, lb⟩ := hb
  obtain ⟨aa, acap, rfl, aad, al1, alm⟩ := la.form
  obtain ⟨ba, bcap, rfl, bad, bl1, blm⟩ := lb.form
  dsimp only at la lb al1 bl1 aad bad h2 ⊢
  unfold maxLen at alm blm
  have ex : Below w.heap.size w (((w.alloc (.cells #[.int .i64 ac, .slice aa al.length acap] 24)).alloc (.cells #[.int .i64 bc, .slice ba bl.length bcap] 24)).alloc (.cells #[.int .i64 0, .slice none 0 0] 24)) := ext_alloc' (ext_alloc' (ext_alloc w _) _) _
  have r0 := ((row_new w [.int .i64 ac, .slice aa al.length acap] 24).alloc (.cells #[.int .i64 bc, .slice ba bl.length bcap] 24)).alloc (.cells #[.int .i64 0, .slice none 0 0] 24)
  have r1 := (row_new (w.alloc (.cells #[.int .i64 ac, .slice aa al.length acap] 24)) [.int .i64 bc, .slice ba bl.length bcap] 24).alloc (.cells #[.int .i64 0, .slice none 0 0] 24)
  have r2 := row_new ((w.alloc (.cells #[.int .i64 ac, .slice aa al.length acap] 24)).alloc (.cells #[.int .i64 bc, .slice ba bl.length bcap] 24)) [.int .i64 0, .slice none 0 0] 24
  simp only [World.size_alloc] at r1 r2
  have KB := Lib.hid (both_calls (va := .agg #[.int .i64 ac, .slice aa al.length acap]) (vb := .agg #[.int .i64 bc, .slice ba bl.length bcap]) (a := ⟨ac, al⟩) (b := ⟨bc, bl⟩) ⟨_, rfl, la.ext ex⟩ ⟨_, rfl, lb.ext ex⟩)
  have R : Hid (mulS ⟨ac, al⟩ ⟨bc, bl⟩ = (⟨bc, timesRows al bl⟩, 0)) := Lib.hid (mulS_ok h1 h2)
  obtain ⟨hma, hmb⟩ := bothM_zero.1 h1
  have HMA := Lib.hid (checkM_zero.1 hma)
  have HMB := Lib.hid (checkM_zero.1 hmb)
  have HRR : Hid (∀ row ∈ al, ∀ j ∈ row, 0 ≤ j ∧ j < (bl.length : Int)) := Lib.hid (fun row hr j hj => by have := HMA.out.rng row hr j hj; dsimp only at this; omega)
  have hal : al.length ≤ 4096 := HMA.out.r1
  have e1 : (bothM ⟨ac, al⟩ ⟨bc, bl⟩ != 0) = false := by simp [h1]
  have e2 : (ac != (bl.length : Int)) = false := by simp [h2]
  clear h1 hma hmb h2
  refine (callsIn_wide (n := 6)).1 ?_
  refine callsIn_of_wp_marks Try.func43 rfl trivial ?_ rfl
  simp only [Try.ntmps43, List.size_toArray, List.length_cons, List.length_nil, Nat.reduceAdd, Nat.reduceSub, Array.replicate_succ, Array.replicate_zero, List.push_toArray, List.append_toArray, List.nil_append, List.cons_append]
  gi_wp2_with fail
  refine ⟨trivial, (callsIn_wide.2 KB.out).mono ?_⟩
  rintro _ w1 ⟨_, rfl, hb1, rfl⟩
  have hx1 := ext_trans ex hb1
  have R0 := r0.ext hb1
  have R1 := r1.ext hb1
  have R2 := r2.ext hb1
  clear KB r0 r1 r2 ex
  obtain ⟨q00, q01⟩ := R0.two
  obtain ⟨q10, q11⟩ := R1.two
  obtain ⟨q20, q21⟩ := R2.two
  have f20 := R2.free 0
  have f21 := R2.free 1
  have z2 := R2.lt
  have z1 := R1.lt
  have z0 := R0.lt
  have R3 := row_new w1 [.int .i64 bc, .slice none 0 0] 24
  have R0 := R0.alloc (.cells #[.int .i64 bc, .slice none 0 0] 24)
  have R1 := R1.alloc (.cells #[.int .i64 bc, .slice none 0 0] 24)
  have R2 := R2.alloc (.cells #[.int .i64 bc, .slice none 0 0] 24)
  have hx2 := ext_alloc' hx1 (.cells #[.int .i64 bc, .slice none 0 0] 24)
  obtain ⟨OB, hOB⟩ : ∃ OB, OB = w1.heap.size := ⟨_, rfl⟩
  obtain ⟨w2, hw2⟩ : ∃ w2, w2 = w1.alloc (.cells #[.int .i64 bc, .slice none 0 0] 24) := ⟨_, rfl⟩
  have hz2 : w2.heap.size ≤ OB + 1 ∧ OB + 1 ≤ w2.heap.size := by rw [hw2, hOB]; simp
  have zOB : w.heap.size + 2 < OB := by omega
  obtain ⟨p00, p01⟩ := R0.two
  obtain ⟨p10, p11⟩ := R1.two
  have KP := Lib.hid (products_calls w2 ac bc (.slice aa al.length acap) (.slice ba bl.length bcap))
  rw [← hOB] at R3
  rw [← hw2] at R0 R1 R2 R3 hx2
  rw [← hw2] at p00 p01 p10 p11
  gi_wp2_with fail
  rw [← hOB, ← hw2]
  refine ⟨trivial, (callsIn_wide.2 KP.out).mono ?_⟩
  rintro _ _ ⟨rfl, rfl⟩
  have hb3 : Below w2.heap.size w2 ((w2.alloc (.cells #[.int .i64 ac, .slice aa al.length acap] 24)).alloc (.cells #[.int .i64 bc, .slice ba bl.length bcap] 24)) := ext_alloc' (ext_alloc _ _) _
  have RB1 := (row_new w2 [.int .i64 ac, .slice aa al.length acap] 24).alloc (.cells #[.int .i64 bc, .slice ba bl.length bcap] 24)
  have RB2 := row_new (w2.alloc (.cells #[.int .i64 ac, .slice aa al.length acap] 24)) [.int .i64 bc, .slice ba bl.length bcap] 24
  rw [World.size_alloc] at RB2
  obtain ⟨w3, hw3⟩ : ∃ w3, w3 = (w2.alloc (.cells #[.int .i64 ac, .slice aa al.length acap] 24)).alloc (.cells #[.int .i64 bc, .slice ba bl.length bcap] 24) := ⟨_, rfl⟩
  obtain ⟨B1, hB1⟩ : ∃ B1, B1 = w2.heap.size := ⟨_, rfl⟩
  rw [← hB1] at RB1 RB2 ⊢
  rw [← hw3] at hb3 RB1 RB2 ⊢
  have R0 := R0.ext hb3
  have R1 := R1.ext hb3
  have R2 := R2.ext hb3
  have R3 := R3.ext hb3
  have hx3 := ext_trans hx2 hb3
  have hz3 := RB2.lt
  have hzB : OB + 1 ≤ B1 ∧ B1 ≤ OB + 1 := by omega
  clear hw3 hB1 hw2 hOB KP p00 p01 p10 p11 q00 q01 q10 q11 q20 q21 f20 f21
  gi_wp2_with fail
  have HLA := Lib.hid (la.block.ext hx3)
  have HLB := Lib.hid (lb.block.ext hx3)
  have hTT : ∀ b, b < w.heap.size → b < w3.heap.size ∧ b ≠ OB := fun b hb => ⟨by omega, by omega⟩
  have HGV := products_gives (T := fun b => b < w3.heap.size ∧ b ≠ OB) (n := 5) (by decide) RB1 RB2 (show _ ∧ _ from ⟨by omega, by omega⟩) (show _ ∧ _ from ⟨by omega, by omega⟩) HLA.out HLB.out (fun b hb => hTT b hb.2) (fun b hb => hTT b hb.2) HMB.out.rok HRR.out
  refine rangeFunc_rd (n := 6) rfl (by decide) (gf := 73) (lb := #[.pointer (some ⟨B1, 0, none⟩), .pointer (some ⟨B1 + 1, 0, none⟩)]) rfl trivial (enters_of Try.func73 (by kernel_rfl) rfl)
    HGV (fun h k => h.trans k) (fun W l o o' hl h hc hw => ⟨by simp, fun b hb _ => World.putObj_heap_other (by omega)⟩) (fun _ => rfl)
    (fun pre b W => ∃ rv vs, Row W OB 24 [.int .i64 bc, rv] ∧ OwnList 38 w3.heap.size W rv vs (pre.map (·.2)) ∧ (∀ k, rv.ownBlock = some k → k < b) ∧ w3.heap.size ≤ b ∧ Row W (w.heap.size + 1 + 1) 24 [.int .i64 0, .slice none 0 0] ∧ Below w.heap.size w W)
    (fun s b A B h hb => by obtain ⟨rv, vs, h1, h2, h3, h4, h5, h6⟩ := h; exact ⟨rv, vs, h1.ext hb, h2.ext hb, h3, h4, h5.ext hb, h6.trans (hb.mono h6.size)⟩)
    (fun s b A l o o' h hl ho hc => by
      obtain ⟨rv, vs, h1, h2, h3, h4, h5, h6⟩ := h
      exact ⟨rv, vs, h1.putObj o' ho hc, h2.putObj o' ho hc, h3, h4, h5.putObj o' ho hc, h6.grown (grownBy_putObj' A l o') h6.size (fun k hk => by cases hk; omega)⟩)
    (fun x b A l o o' h hl ho hc => ints_putObj h o' ho hc)
    (fun b hb => ⟨_, [], R3, .nil _ _ _, (fun k hk => by cases hk), hb, R2, hx3⟩)
    (fun x => { tmps := #[Value.agg #[Value.int IntKind.i64 ac, Value.slice aa al.length acap],
          Value.agg #[Value.int IntKind.i64 bc, Value.slice ba bl.length bcap],
          Value.pointer (some ⟨w.heap.size, 0, none⟩),
          Value.pointer (some ⟨w.heap.size + 1, 0, none⟩),
          Value.pointer (some ⟨w.heap.size + 1 + 1, 0, none⟩), Value.int IntKind.i64 0,
          Value.int IntKind.i64 (bothM ⟨ac, al⟩ ⟨bc, bl⟩),
          Value.pointer (some ⟨OB, 0, none⟩), x.1,
          Value.agg #[Value.int IntKind.i64 ac, Value.slice aa al.length acap],
          Value.agg #[Value.int IntKind.i64 bc, Value.slice ba bl.length bcap],
          Value.int IntKind.i64 (bothM ⟨ac, al⟩ ⟨bc, bl⟩),
          Value.int IntKind.i64 (bothM ⟨ac, al⟩ ⟨bc, bl⟩), Value.bool false, undef,
          undef, Value.pointer (some ⟨w.heap.size, 0, none⟩), Value.int IntKind.i64 ac,
          Value.pointer (some ⟨w.heap.size + 1, 1, none⟩), Value.slice ba bl.length bcap,
          Value.int IntKind.i64 (bl.length : Int), Value.bool false, undef,
          Value.pointer (some ⟨w.heap.size + 1, 0, none⟩), Value.int IntKind.i64 bc,
          Value.agg #[Value.int IntKind.i64 bc, Value.slice none 0 0],
          Value.agg #[Value.int IntKind.i64 ac, Value.slice aa al.length acap],
          Value.agg #[Value.int IntKind.i64 bc, Value.slice ba bl.length bcap],
          Value.func (Fn.func 73) #[] #[Value.pointer (some ⟨B1, 0, none⟩), Value.pointer (some ⟨B1 + 1, 0, none⟩)],
          x.1, undef, undef, undef, undef, undef, undef, undef], defers := [] }) ?assign ?body ?done
  case assign =>
    intro l x W K hK
    gi_wp2
    exact hK
  case body =>
    rintro l pre ⟨xv, xl⟩ b W ⟨rv, vs, P3, hO, hown, hb3, P2, hBw⟩ hlen hbW hx
    dsimp only at hx ⊢
    obtain ⟨ax, cx, rfl, _⟩ := hx.form
    obtain ⟨q30, q31⟩ := P3.two
    have zP3 := P3.lt
    have hpl0 : (pre.map (·.2)).length = pre.length := by simp
    obtain ⟨pl, hpl⟩ : ∃ pl, pl = pre.map (·.2) := ⟨_, rfl⟩
    rw [← hpl] at hO hpl0
    have HPL := Lib.hid hpl
    clear hpl
    have ORW := Lib.hid hO.row
    have HNE : Hid (∀ k, rv.ownBlock = some k → k ≠ OB) := Lib.hid (fun k hk e => by have := (hO.row.lt k hk).1; omega)
    have f0 := P3.free 1
    have hlm : pl.length ≤ 4096 := by omega
    clear hpl0
    gi_wp2_with (gi_at_builtin; refine wpListIn_push rfl _ _ 22 rfl 38 _ 24 Try.underlying22 info_ints rfl w3.heap.size _ _ _ rfl ORW.out (.slice ax xl.length cx) rfl rfl (by omega) (by omega) (by omega) ?_; intro g6 cp6 w6 hown6 hgr6 hat6; have R6 := (P3.alloc (.cells #[.slice ax xl.length cx] 38)).grown hgr6 (fun e => HNE.out _ e rfl); have f6 := R6.free 1; have c6 := R6.cell (j := 1) rfl)
    have hag : ∀ S : Nat → Prop, (∀ k, rv.ownBlock = some k → ¬ S k) → Agree S W w6 := fun S hS => (Agree.of_grown (World.grownBy_alloc W (.cells #[.slice ax xl.length cx] 38) none) (by simp)).trans (.of_grown hgr6 fun k hk e => hS k e hk)
    have hs6 := hgr6.size
    simp only [World.size_alloc] at hs6
    have hP := (hO.push hown6 hag (fun k hk => by cases hk; exact hat6) (hx.mono fun k hk => ⟨by omega, fun e => by have := hown k e; omega⟩)).agree (.of_grown (grownBy_setCell w6 OB 1 (.slice (some ⟨g6, 0, none⟩) (pl.length + 1) cp6)) fun k hk e => by cases e; omega)
    have hset := grownBy_setCell w6 OB 1 (.slice (some ⟨g6, 0, none⟩) (pl.length + 1) cp6)
    have P6 := R6.set 1 (.slice (some ⟨g6, 0, none⟩) (pl.length + 1) cp6)
    have P26 := ((P2.alloc (.cells #[.slice ax xl.length cx] 38)).grown hgr6 (fun e => by have := (ORW.out.lt _ e).1; omega)).grown hset (by simp; omega)
    have hlt6 := (hown6.lt g6 rfl).2
    gi_wp2
    refine ⟨(((KeepsOthers.alloc W _).trans (.of_grownBy hgr6 fun j o hj ho => ?_)).trans (.setCell _ _ _)).from _, (hag _ fun k hk h => ?_).trans (.of_grown hset fun k hk e => ?_), _, _, P6, by rw [List.map_append, ← HPL.out]; exact hP, fun k hk => ?_, ?_, P26, ((hBw.alloc hBw.size _).grown hgr6 (by simp; omega) fun k hk => ?_).setCell (by simp; omega) _⟩
    · rcases ORW.out.2 with ⟨rfl, _⟩ | ⟨g, cap, cur, rfl, _, hc, _⟩
      · cases hj
      · cases hj
        rw [(Below.heap_alloc W _ _ (Array.getElem?_eq_some_iff.1 hc).1).trans hc] at ho
        cases ho
        rfl
    · have := (ORW.out.lt k hk).1; omega
    · cases e; exact hk.2 rfl
    · cases hk; simpa using hlt6
    · simp; omega
    · have := (ORW.out.lt k hk).1; omega
  case done =>
    rintro D xs b W hD hS ⟨rv, vs, P3, hO, hown, hb3, P2, hBw⟩ hK
    have hL := hO.lists
    rw [hS] at hL
    obtain ⟨a9, c9, rfl, _⟩ := hL.form
    obtain ⟨q30, q31⟩ := P3.two
    obtain ⟨q20, q21⟩ := P2.two
    have f20 := P2.free 0
    have f21 := P2.free 1
    have HLL := Lib.hid hO
    have HSS := Lib.hid hS
    gi_wp2
    have hK2 : ((W.setCell ⟨w.heap.size + 1 + 1, 0, none⟩ (.int .i64 bc)).setCell ⟨w.heap.size + 1 + 1, 1, none⟩ (.slice a9 (timesRows al bl).length c9)).heap[D]? = some (.deferred (some [])) := ((KeepsOthers.setCell W _ _).trans (.setCell _ _ _)).same D _ hK rfl
    refine ⟨by simp, .inl ⟨_, _, rfl, run_takeDeferred hK2, ?_⟩⟩
    have P9 := (row_set2 P2 (.int .i64 bc) (.slice a9 (timesRows al bl).length c9)).putObj (.deferred none) hK2 rfl
    have hO9 := ((HLL.out.agree ((Agree.of_grown (grownBy_setCell W (w.heap.size + 1 + 1) 0 (.int .i64 bc)) fun b hb e => by cases e; omega).trans (.of_grown (grownBy_setCell _ (w.heap.size + 1 + 1) 1 (.slice a9 (timesRows al bl).length c9)) fun b hb e => by cases e; omega))).putObj (.deferred none) hK2 rfl).lists
    rw [HSS.out] at hO9
    have hB9 := ((hBw.setCell (show w.heap.size ≤ w.heap.size + 1 + 1 by omega) (.int .i64 bc) (p := ⟨w.heap.size + 1 + 1, 0, none⟩)).setCell (show w.heap.size ≤ w.heap.size + 1 + 1 by omega) (.slice a9 (timesRows al bl).length c9) (p := ⟨w.heap.size + 1 + 1, 1, none⟩)).grown (grownBy_putObj' _ D (.deferred none)) (by simpa using hBw.size) (fun k hk => by cases hk; omega)
    obtain ⟨q90, q91⟩ := P9.two
    obtain ⟨w9, hw9⟩ : ∃ w9, w9 = (((W.setCell ⟨w.heap.size + 1 + 1, 0, none⟩ (.int .i64 bc)).setCell ⟨w.heap.size + 1 + 1, 1, none⟩ (.slice a9 (timesRows al bl).length c9)).putObj D (.deferred none)) := ⟨_, rfl⟩
    rw [← hw9] at hB9 hO9 q90 q91 ⊢
    exact ⟨.tuple #[.agg #[.int .i64 bc, .slice a9 (timesRows al bl).length c9], .int .i64 0], by simp [results, Try.results43, go_sem, q90, q91], .mk hB9 (.mk R.out (hO9.mono fun b hb => by omega))⟩

theorem multiply_calls {S S' : Nat → Prop} {w : World} {va vb : Value} {a b : Mx} (ha : MatV S w va a) (hb : MatV S' w vb b) : Calls Try.prog 43 #[va, vb] w (Post w (RetM w.heap.size (mulS a b))) := by
  by_cases h : bothM a b = 0 ∧ a.cols = b.rows.length
  · exact multiply_ok ha hb h.1 h.2
  · exact multiply_err ha hb h

theorem ROk.row_len {c : Int} {R : List (List Int)} (ok : ROk c R) (k : Nat) : (nthL R k).length ≤ 100000 := ok.nth_len k |> fun h => by omega

set_option maxRecDepth 100000 in
set_option maxHeartbeats 4000000 in
theorem refTimes_calls {S S' : Nat → Prop} {w : World} {va vb : Value} {a b : Mx} (ha : MatV S w va a) (hb : MatV S' w vb b) (hma : MOk a) (hmb : MOk b) (hfit : a.cols = b.rows.length) :
    Calls Try.prog 64 #[va, vb] w (Post w (RetX w.heap.size ⟨b.cols, timesRows a.rows b.rows⟩)) := by
  obtain ⟨ac, al⟩ := a
  obtain ⟨bc, bl⟩ := b
  obtain ⟨ra, rfl, la⟩ := ha
  obtain ⟨rb, rfl, lb⟩ := hb
  obtain ⟨aa, acap, rfl, aad, al1, alm⟩ := la.form
  obtain ⟨ba, bcap, rfl, bad, bl1, blm⟩ := lb.form
  dsimp only at la lb al1 bl1 aad bad hfit ⊢
  unfold maxLen at alm blm
  obtain ⟨i0, hi, hz0, hz1, hz2⟩ := info_parts info_ints
  have HQA := Lib.hid (idx_one Try.underlying22 hi hz1 aad)
  have HMB := Lib.hid hmb
  have HRR : Hid (∀ k, k < al.length → ∀ j ∈ nthL al k, 0 ≤ j ∧ j < (bl.length : Int)) := Lib.hid (fun k hk j hj => by have := hma.rng _ (nthL_mem hk) j hj; dsimp only at this; omega)
  have hal : al.length ≤ 4096 := hma.r1
  clear hma hmb hfit
  obtain ⟨OB, hOB⟩ : ∃ OB, OB = w.heap.size + 1 + 1 + 1 := ⟨_, rfl⟩
  have ex : Below w.heap.size w ((((w.alloc (.cells #[.int .i64 ac, .slice aa al.length acap] 24)).alloc (.cells #[.int .i64 bc, .slice ba bl.length bcap] 24)).alloc (.cells #[.int .i64 0, .slice none 0 0] 24)).alloc (.cells #[.int .i64 bc, .slice none 0 0] 24)) := ext_alloc' (ext_alloc' (ext_alloc' (ext_alloc w _) _) _) _
  have r0 := (((row_new w [.int .i64 ac, .slice aa al.length acap] 24).alloc (.cells #[.int .i64 bc, .slice ba bl.length bcap] 24)).alloc (.cells #[.int .i64 0, .slice none 0 0] 24)).alloc (.cells #[.int .i64 bc, .slice none 0 0] 24)
  have r1 := ((row_new (w.alloc (.cells #[.int .i64 ac, .slice aa al.length acap] 24)) [.int .i64 bc, .slice ba bl.length bcap] 24).alloc (.cells #[.int .i64 0, .slice none 0 0] 24)).alloc (.cells #[.int .i64 bc, .slice none 0 0] 24)
  have r2 := (row_new ((w.alloc (.cells #[.int .i64 ac, .slice aa al.length acap] 24)).alloc (.cells #[.int .i64 bc, .slice ba bl.length bcap] 24)) [.int .i64 0, .slice none 0 0] 24).alloc (.cells #[.int .i64 bc, .slice none 0 0] 24)
  have r3 := row_new (((w.alloc (.cells #[.int .i64 ac, .slice aa al.length acap] 24)).alloc (.cells #[.int .i64 bc, .slice ba bl.length bcap] 24)).alloc (.cells #[.int .i64 0, .slice none 0 0] 24)) [.int .i64 bc, .slice none 0 0] 24
  simp only [World.size_alloc] at r1 r2 r3
  rw [← hOB] at r3
  have hzr0 : OB + 1 ≤ ((((w.alloc (.cells #[.int .i64 ac, .slice aa al.length acap] 24)).alloc (.cells #[.int .i64 bc, .slice ba bl.length bcap] 24)).alloc (.cells #[.int .i64 0, .slice none 0 0] 24)).alloc (.cells #[.int .i64 bc, .slice none 0 0] 24)).heap.size := by rw [hOB]; simp
  have zOB1 : OB ≤ w.heap.size + 1 + 1 + 1 := by omega
  have zOB2 : w.heap.size + 1 + 1 + 1 ≤ OB := by omega
  go_enter Try.func64, Try.ntmps64
  go_wp2
  rw [← hOB]
  clear hOB
  go_loopw [6] (fun i wr => ∃ (k : Nat) (rv : Value) (vs : List Value), k ≤ al.length ∧ i = .int .i64 k ∧ Below w.heap.size w wr ∧ OB + 1 ≤ wr.heap.size ∧ Row wr w.heap.size 24 [.int .i64 ac, .slice aa al.length acap] ∧ Row wr (w.heap.size + 1) 24 [.int .i64 bc, .slice ba bl.length bcap] ∧
      Row wr (w.heap.size + 1 + 1) 24 [.int .i64 0, .slice none 0 0] ∧ Row wr OB 24 [.int .i64 bc, rv] ∧ OwnList 38 (OB + 1) wr rv vs ((timesRows al bl).take k)) (fun i _ => al.length - (intOf i).toNat)
  case atStart => exact ⟨0, _, _, Nat.zero_le _, rfl, ex, hzr0, r0, r1, r2, r3, .nil _ _ _⟩
  case round =>
    clear r0 r1 r2 r3 ex hzr0
    obtain ⟨k, rv, vs, hk, rfl, hb, hzr, R0, R1, R2, R3, hO⟩ := hrel
    by_cases hlt : k < al.length
    · obtain ⟨q00, q01⟩ := R0.two
      obtain ⟨q10, q11⟩ := R1.two
      obtain ⟨q30, q31⟩ := R3.two
      have qa := HQA.out k hlt
      obtain ⟨u, cu, iu⟩ := la.at hb hlt
      have HT := Lib.hid (timesRows_take (b := bl) hlt)
      obtain ⟨x, hx⟩ : ∃ x, x = sumRows bl (nthL al k) := ⟨_, rfl⟩
      have HS : Hid (∀ W, Below wr.heap.size wr W → Calls Try.prog 35 #[.slice ba bl.length bcap, u] W (Post W fun w' r => Ints (fun b => W.heap.size ≤ b) w' r x)) := Lib.hid (fun W hW => by rw [hx]; exact refSum_calls ((lb.ext hb).ext hW) (iu.ext hW) HMB.out.rok (HRR.out k hlt))
      rw [← hx] at HT
      have HX := Lib.hid hx
      clear hx iu
      have hrefl := Below.refl wr.heap.size wr
      obtain ⟨ll, hll⟩ : ∃ ll, ll = (timesRows al bl).take k := ⟨_, rfl⟩
      rw [← hll] at hO HT
      have hln : ll.length ≤ 4096 := by rw [hll, List.length_take]; omega
      have HLL := Lib.hid hll
      clear hll
      have B1 := Lib.hid (show ll.length + 1 ≤ maxLen by unfold maxLen; omega)
      have B2 := Lib.hid (show (ll.length + 1) * 24 ≤ 140737488355328 by omega)
      have zR3 := R3.lt
      have HNE := Lib.hid (show rv.ownBlock ≠ some OB from fun h => by have := (hO.row.lt _ h).1; omega)
      have hAa := adr_block aad hlt
      have hbs := hb.size
      have HOWN : Hid (∀ b, b < OB + 1 → rv.ownBlock ≠ some b) := Lib.hid (fun b hb h => by have := (hO.row.lt _ h).1; omega)
      have KEEP : Hid (∀ W', Agree (fun b => b < OB + 1) wr W' → (fun w' : World => w'.cell? ⟨w.heap.size, 1, none⟩ = some (.slice aa al.length acap) ∧ w'.cell? ⟨w.heap.size + 1, 1, none⟩ = some (.slice ba bl.length bcap) ∧ w'.cell? (adr aa k) = some u ∧ w'.cell? ⟨OB, 1, none⟩ = some rv) W') := Lib.hid (fun W' hW' => ⟨cell_agree q01 hW' (show _ < _ by simp; omega), cell_agree q11 hW' (show _ < _ by simp; omega), cell_agree cu hW' (show _ < _ by omega), cell_agree q31 hW' (show _ < _ by simp)⟩)
      have hA0 : Agree (fun b => b < OB + 1) wr wr := .refl _ _
      go_wp2
      refine region_E (fun w' : World => w'.cell? ⟨w.heap.size, 1, none⟩ = some (.slice aa al.length acap) ∧ w'.cell? ⟨w.heap.size + 1, 1, none⟩ = some (.slice ba bl.length bcap) ∧ w'.cell? (adr aa k) = some u ∧ w'.cell? ⟨OB, 1, none⟩ = some rv) (fun i => i == 13) (by kernel_rfl) ?_ (fun hHeld => ?_)
      · exact KEEP.out _ hA0.drew
      refine anyE_take 0 (v := ?_) rfl (by kernel_rfl) (fun _ _ _ h => h) (by rfl) ?hy0 hHeld ?rest0
      case hy0 => (intro w hSw; (try dsimp only at hSw); go_simp; try with_reducible rfl)
      try simp only [Act.put, List.setIfInBounds_toArray, List.set_cons_zero, List.set_cons_succ]
      refine anyE_take 1 (v := ?_) rfl (by kernel_rfl) (fun _ _ _ h => h) (by rfl) ?hy1 hHeld ?rest1
      case hy1 => (intro w hSw; (try dsimp only at hSw); go_simp; try with_reducible rfl)
      try simp only [Act.put, List.setIfInBounds_toArray, List.set_cons_zero, List.set_cons_succ]
      refine anyE_take 2 (v := ?_) rfl (by kernel_rfl) (fun _ _ _ h => h) (by rfl) ?hy2 hHeld ?rest2
      case hy2 => (intro w hSw; (try dsimp only at hSw); go_simp; try with_reducible rfl)
      try simp only [Act.put, List.setIfInBounds_toArray, List.set_cons_zero, List.set_cons_succ]
      refine anyE_take 3 (v := ?_) rfl (by kernel_rfl) (fun _ _ _ h => h) (by rfl) ?hy3 hHeld ?rest3
      case hy3 => (intro w hSw; (try dsimp only at hSw); go_simp; try with_reducible rfl)
      try simp only [Act.put, List.setIfInBounds_toArray, List.set_cons_zero, List.set_cons_succ]
      refine anyE_take 4 (v := ?_) rfl (by kernel_rfl) (fun _ _ _ h => h) (by rfl) ?hy4 hHeld ?rest4
      case hy4 => (intro w hSw; (try dsimp only at hSw); go_simp; try with_reducible rfl)
      try simp only [Act.put, List.setIfInBounds_toArray, List.set_cons_zero, List.set_cons_succ]
      refine anyE_take 5 (v := ?_) rfl (by kernel_rfl) (fun _ _ _ h => h) (by rfl) ?hy5 hHeld ?rest5
      case hy5 => (intro w hSw; (try dsimp only at hSw); go_simp; try with_reducible rfl)
      try simp only [Act.put, List.setIfInBounds_toArray, List.set_cons_zero, List.set_cons_succ]
      refine anyE_take 6 (v := ?_) rfl (by kernel_rfl) (fun _ _ _ h => h) (by rfl) ?hy6 hHeld ?rest6
      case hy6 => (intro w hSw; (try dsimp only at hSw); go_simp; try with_reducible rfl)
      try simp only [Act.put, List.setIfInBounds_toArray, List.set_cons_zero, List.set_cons_succ]
      refine anyE_take 7 (v := ?_) rfl (by kernel_rfl) (fun _ _ _ h => h) (by rfl) ?hy7 hHeld ?rest7
      case hy7 => (intro w hSw; (try dsimp only at hSw); go_simp; try with_reducible rfl)
      try simp only [Act.put, List.setIfInBounds_toArray, List.set_cons_zero, List.set_cons_succ]
      refine anyE_take 8 (v := ?_) rfl (by kernel_rfl) (fun _ _ _ h => h) (by rfl) ?hy8 hHeld ?rest8
      case hy8 => (intro w hSw; (try dsimp only at hSw); go_simp; try with_reducible rfl)
      try simp only [Act.put, List.setIfInBounds_toArray, List.set_cons_zero, List.set_cons_succ]
      refine anyE_one 9 rfl (by kernel_rfl) (fun K hK => ?_)
      go_simp; go_at_call 35; refine (HS.out _ (drewN_below _ _ 1)).mono ?_; rintro _ w5 ⟨v5, rfl, hb5, hx5⟩; obtain ⟨a5, c5, rfl, _⟩ := hx5.form; have hbb : Below wr.heap.size wr w5 := ext_trans (drewN_below _ _ 1) hb5; have OWN5 := Lib.hid (owns_ext hO.row hbb); have hl5 : OB < w5.heap.size := Nat.le_trans hzr hbb.size; have hA5 : Agree (fun b => b < OB + 1) wr w5 := .of_ext hbb
      refine hK.out _ _ (fun _ => KEEP.out _ hA5) (fun hHeld => ?_); replace hHeld := hHeld rfl
      clear hK K
      try simp only [Act.put, List.setIfInBounds_toArray, List.set_cons_zero, List.set_cons_succ]
      refine anyE_one 10 rfl (by kernel_rfl) (fun K hK => ?_)
      go_simp
      refine hK.out _ _ (fun _ => KEEP.out _ (hA5.alloc _)) (fun hHeld => ?_); replace hHeld := hHeld rfl
      clear hK K
      try simp only [Act.put, List.setIfInBounds_toArray, List.set_cons_zero, List.set_cons_succ]
      refine anyE_one 11 rfl (by kernel_rfl) (fun K hK => ?_)
      (refine step_append_lies _ (by rfl) _ _ _ (by rfl) (OB + 1) 38 i0 _ 1 24 Try.underlying22 hi hz0 hz1 hz2 rfl (by decide) rv ll.length vs (by rfl) (OWN5.out.alloc _) ⟨w5.heap.size, 0, none⟩ 1 1 [.slice a5 x.length c5] (by rfl) (by rfl) (World.news_of_block (cs := #[.slice a5 x.length c5]) (t := 38) (fr := (0, 0)) (heap_alloc_new w5 _)) (by simp [Value.oneCell']) (by decide) B1.out B2.out (by simp; omega) (w5.heap.size + 1) (by simp) ?_; intro g6 cp6 w6 hown6 hgrow6 hat6 hlt6; have R6 := (((R3.ext hbb).alloc (.cells #[.slice a5 x.length c5] 38))).grown hgrow6 HNE.out; have f6 := R6.free 1; have c6 := R6.cell (j := 1) rfl)
      refine hK.out _ _ (fun _ => KEEP.out _ ((hA5.alloc _).trans (.of_grown hgrow6 HOWN.out))) (fun hHeld => ?_); replace hHeld := hHeld rfl
      clear hK K
      try simp only [Act.put, List.setIfInBounds_toArray, List.set_cons_zero, List.set_cons_succ]
      refine anyE_take 12 (v := ?_) rfl (by kernel_rfl) (fun _ _ _ h => h) (by rfl) ?hy12 hHeld ?rest12
      case hy12 => (intro w hSw; (try dsimp only at hSw); go_simp; try with_reducible rfl)
      try simp only [Act.put, List.setIfInBounds_toArray, List.set_cons_zero, List.set_cons_succ]
      refine anyE_one 13 rfl (by kernel_rfl) (fun K hK => ?_)
      go_simp
      refine hK.out _ _ (fun h => by simp at h) (fun hHeld => ?_)
      clear hK K
      try simp only [Act.put, List.setIfInBounds_toArray, List.set_cons_zero, List.set_cons_succ]
      refine anyE_done (by kernel_rfl) ?_ _
      have hrs := hbb.size
      have HP := out_push (T := 24) (OB := OB) (B := OB + 1) (by omega) hzr R3 hO hbb (hx5.mono fun b hb => hb) (by first | exact ext_alloc _ _ | exact (ext_alloc _ _).drew) hown6 hgrow6 (hat6.imp id fun h => by omega)
      obtain ⟨P3, PO, PA, PB⟩ := HP
      have PB0 := PB w.heap.size (by omega)
      have P0 := R0.agreeN PA (by omega) (by omega)
      have P1 := R1.agreeN PA (by omega) (by omega)
      have P2 := R2.agreeN PA (by omega) (by omega)
      have hsz := PA.size
      rw [← HT.out] at PO
      clear PA PB
      go_wp2
      go_roundw
      case rel => exact ⟨k + 1, _, _, by omega, by go_num, hb.trans PB0, by omega, P0, P1, P2, P3, PO⟩
      case measure => simp [intOf]; omega
    · have hEE : (timesRows al bl).length = al.length := by unfold timesRows; rw [List.length_map]
      have HE := Lib.hid (show (timesRows al bl).take k = timesRows al bl from List.take_of_length_le (by rw [hEE]; omega))
      have hL := hO.lists
      rw [HE.out] at hL
      obtain ⟨a9, c9, rfl, _⟩ := hL.form
      obtain ⟨q30, q31⟩ := R3.two
      obtain ⟨q00, q01⟩ := R0.two
      obtain ⟨q20, q21⟩ := R2.two
      have f20 := R2.free 0
      have f21 := R2.free 1
      clear hEE
      go_wp2
      refine bodyPost_ret (v := .agg #[.int .i64 bc, .slice a9 (timesRows al bl).length c9]) (by simp [results, Try.results64, go_sem, q20, q21, f20, f21]) rfl ?_
      exact .mk (set2_below _ _ hb (by omega)) ⟨_, rfl, (hL.agree (set2_agree _ _ (by omega))).mono fun b hb => by omega⟩

set_option maxRecDepth 100000 in
set_option maxHeartbeats 4000000 in
theorem refMultiply_calls {S S' : Nat → Prop} {w : World} {va vb : Value} {a b : Mx} (ha : MatV S w va a) (hb : MatV S' w vb b) :
    Calls Try.prog 44 #[va, vb] w (Post w (RetM w.heap.size (mulS a b))) := by
  obtain ⟨ac, al⟩ := a
  obtain ⟨bc, bl⟩ := b
  obtain ⟨ra, rfl, la⟩ := ha
  obtain ⟨rb, rfl, lb⟩ := hb
  obtain ⟨aa, acap, rfl, aad, al1, alm⟩ := la.form
  obtain ⟨ba, bcap, rfl, bad, bl1, blm⟩ := lb.form
  dsimp only at la lb al1 bl1 aad bad ⊢
  unfold maxLen at alm blm
  have ex : Below w.heap.size w (((w.alloc (.cells #[.int .i64 ac, .slice aa al.length acap] 24)).alloc (.cells #[.int .i64 bc, .slice ba bl.length bcap] 24)).alloc (.cells #[.int .i64 0, .slice none 0 0] 24)) := ext_alloc' (ext_alloc' (ext_alloc w _) _) _
  have r0 := ((row_new w [.int .i64 ac, .slice aa al.length acap] 24).alloc (.cells #[.int .i64 bc, .slice ba bl.length bcap] 24)).alloc (.cells #[.int .i64 0, .slice none 0 0] 24)
  have r1 := (row_new (w.alloc (.cells #[.int .i64 ac, .slice aa al.length acap] 24)) [.int .i64 bc, .slice ba bl.length bcap] 24).alloc (.cells #[.int .i64 0, .slice none 0 0] 24)
  have r2 := row_new ((w.alloc (.cells #[.int .i64 ac, .slice aa al.length acap] 24)).alloc (.cells #[.int .i64 bc, .slice ba bl.length bcap] 24)) [.int .i64 0, .slice none 0 0] 24
  simp only [World.size_alloc] at r1 r2
  have KB := Lib.hid (refBoth_calls (va := .agg #[.int .i64 ac, .slice aa al.length acap]) (vb := .agg #[.int .i64 bc, .slice ba bl.length bcap]) (a := ⟨ac, al⟩) (b := ⟨bc, bl⟩) ⟨_, rfl, la.ext ex⟩ ⟨_, rfl, lb.ext ex⟩)
  go_enter Try.func44, Try.ntmps44
  go_wp2_with fail
  refine KB.out.mono ?_
  rintro _ w1 ⟨_, rfl, hb1, rfl⟩
  have hx1 := ext_trans ex hb1
  have R0 := r0.ext hb1
  have R1 := r1.ext hb1
  have R2 := r2.ext hb1
  clear KB r0 r1 r2 ex
  obtain ⟨q00, q01⟩ := R0.two
  obtain ⟨q10, q11⟩ := R1.two
  obtain ⟨q20, q21⟩ := R2.two
  have f20 := R2.free 0
  have f21 := R2.free 1
  have z2 := R2.lt
  have z1 := R1.lt
  have z0 := R0.lt
  by_cases h1 : ¬ bothM ⟨ac, al⟩ ⟨bc, bl⟩ = 0
  · have e1 : (bothM ⟨ac, al⟩ ⟨bc, bl⟩ != 0) = true := by simp [h1]
    have R := Lib.hid (mulS_err h1)
    clear h1
    go_wp2
    refine bodyPost_ret (v := .tuple #[.agg #[.int .i64 0, .slice none 0 0], .int .i64 (bothM ⟨ac, al⟩ ⟨bc, bl⟩)]) (by simp [results, Try.results44, go_sem, q20, q21, f20, f21]) rfl ?_
    exact .mk (set2_below _ _ hx1 (by omega)) (.none R.out)
  have h1 := Classical.not_not.1 h1
  have e1 : (bothM ⟨ac, al⟩ ⟨bc, bl⟩ != 0) = false := by simp [h1]
  by_cases hsh : ac ≠ (bl.length : Int)
  · have R : Hid (mulS ⟨ac, al⟩ ⟨bc, bl⟩ = (⟨0, []⟩, 15)) := Lib.hid (mulS_shape h1 hsh)
    have e2 : (ac != (bl.length : Int)) = true := by simp [hsh]
    clear hsh h1
    go_wp2
    refine bodyPost_ret (v := .tuple #[.agg #[.int .i64 0, .slice none 0 0], .int .i64 15]) (by simp [results, Try.results44, go_sem, q20, q21, f20, f21]) rfl ?_
    exact .mk (set2_below _ _ hx1 (by omega)) (.none R.out)
  have hsh := Classical.not_not.1 hsh
  have R : Hid (mulS ⟨ac, al⟩ ⟨bc, bl⟩ = (⟨bc, timesRows al bl⟩, 0)) := Lib.hid (mulS_ok h1 hsh)
  have e2 : (ac != (bl.length : Int)) = false := by simp [hsh]
  obtain ⟨hma, hmb⟩ := bothM_zero.1 h1
  have KT := Lib.hid (refTimes_calls (va := .agg #[.int .i64 ac, .slice aa al.length acap]) (vb := .agg #[.int .i64 bc, .slice ba bl.length bcap]) (a := ⟨ac, al⟩) (b := ⟨bc, bl⟩) (w := w1) ⟨_, rfl, la.ext hx1⟩ ⟨_, rfl, lb.ext hx1⟩ (checkM_zero.1 hma) (checkM_zero.1 hmb) hsh)
  clear hsh h1 hma hmb q20 q21 f20 f21
  go_wp2_with fail
  refine KT.out.mono ?_
  rintro _ w2 ⟨v2, rfl, hb2, rv2, rfl, hl2⟩
  dsimp only at hl2
  obtain ⟨a2, c2, rfl, _⟩ := hl2.form
  have R2 := R2.ext hb2
  obtain ⟨q20, q21⟩ := R2.two
  have f20 := R2.free 0
  have f21 := R2.free 1
  have hbs := hx1.size
  have HL2 := Lib.hid hl2
  clear hl2
  dsimp only
  go_wp2
  refine bodyPost_ret (v := .tuple #[.agg #[.int .i64 bc, .slice a2 (timesRows al bl).length c2], .int .i64 0]) (by simp [results, Try.results44, go_sem, q20, q21, f20, f21]) rfl ?_
  exact .mk (set2_below _ _ (ext_trans hx1 hb2) (by omega)) (.mk R.out ((HL2.out.agree (set2_agree _ _ (by omega))).mono fun b hb => by omega))
end Go.Proofs.Ytijmjliijjkcbaa
