/- The walk of ExprRewrites. -/
import Derived.Test.YtifkkajgcekafaaDoorExAwake
import Derived.Test.YtifkkajgcekafaaDoorExLaw0
import Derived.Test.YtifkkajgcekafaaDoorExTop2
import Derived.Test.YtifkkajgcekafaaDoorExFreeE
namespace Go.Proofs.YtifkkajgcekafaaDoor
set_option linter.unusedVariables false
open Go.RowKit
attribute [local go_sem ↓] Go.wp_at_zero Go.wp_at_succ

set_option maxRecDepth 100000 in
theorem refNegV_calls {S : Nat → Prop} {w : World} {e x : Ex} {v : Value} {f : Int} (h : ExprV S w e v) (hsz : sizeE e ≤ 1000) (vars : Int) (he : negR e vars = (x, f)) :
    Calls Tryd.prog 33 #[v, .int .i64 vars] w (Post w fun W' r => ∃ u, r = .tuple #[u, .int .i64 f] ∧ ExprV (fun b => (S b ∧ b < w.heap.size) ∨ w.heap.size ≤ b) W' x u) := by
  have h1 := refNegate_calls h hsz vars
  rw [he] at h1
  refine h1.mono ?_
  intro a b hh
  obtain ⟨v, h2, h3, u, h4, h5⟩ := hh
  exact ⟨v, h2, h3, u, h4, h5⟩
theorem bindV_calls {S : Nat → Prop} {w : World} {e x : Ex} {v : Value} {f : Int} (hT : Tab w) (h : ExprV S w e v) (hsz : sizeE e ≤ 1000) (vars value : Int) (hvw : WF value) (he : bindR e vars value = (x, f)) :
    Calls Tryd.prog 34 #[v, .int .i64 vars, .int .i64 value] w (Post w fun W' r => ∃ u, r = .tuple #[u, .int .i64 f] ∧ ExprV (fun b => w.heap.size ≤ b) W' x u) := by
  have h1 := bind_calls hT h hsz vars value hvw
  rw [he] at h1
  exact h1
theorem refBindV_calls {S : Nat → Prop} {w : World} {e x : Ex} {v : Value} {f : Int} (h : ExprV S w e v) (hsz : sizeE e ≤ 1000) (vars value : Int) (hvw : WF value) (he : bindR e vars value = (x, f)) :
    Calls Tryd.prog 35 #[v, .int .i64 vars, .int .i64 value] w (Post w fun W' r => ∃ u, r = .tuple #[u, .int .i64 f] ∧ ExprV (fun b => w.heap.size ≤ b) W' x u) := by
  have h1 := refBind_calls h hsz vars value hvw
  rw [he] at h1
  exact h1
set_option maxRecDepth 100000 in
theorem freeV_calls {S : Nat → Prop} {w : World} {e : Ex} {v : Value} {l : List Int} {f : Int} (hT : Tab w) (h : ExprV S w e v) (hsz : sizeE e ≤ 1000) (vars : Int) (he : freeR e vars = (l, f)) :
    Calls Tryd.prog 32 #[v, .int .i64 vars] w (Post w fun W' r => ∃ u, r = .tuple #[u, .int .i64 f] ∧ Ints (fun b => w.heap.size ≤ b) W' u l) := by
  have h1 := free_calls hT h hsz vars
  rw [he] at h1
  refine h1.mono ?_
  intro a b hh
  obtain ⟨v, h2, h3, u, h4, h5⟩ := hh
  exact ⟨v, h2, h3, u, h4, h5⟩
set_option maxRecDepth 100000 in
theorem refFreeV_calls {S : Nat → Prop} {w : World} {e : Ex} {v : Value} {l : List Int} {f : Int} (h : ExprV S w e v) (hsz : sizeE e ≤ 1000) (vars : Int) (he : freeR e vars = (l, f)) :
    Calls Tryd.prog 36 #[v, .int .i64 vars] w (Post w fun W' r => ∃ u, r = .tuple #[u, .int .i64 f] ∧ Ints (fun b => w.heap.size ≤ b) W' u l) := by
  have h1 := refFree_calls h hsz vars
  rw [he] at h1
  refine h1.mono ?_
  intro a b hh
  obtain ⟨v, h2, h3, u, h4, h5⟩ := hh
  exact ⟨v, h2, h3, u, h4, h5⟩
theorem sameIntsV_calls {S S2 : Nat → Prop} {w : World} {u u2 : Value} {l : List Int} (h : Ints S w u l) (h2 : Ints S2 w u2 l) : Calls Tryd.prog 37 #[u, u2] w (Post w fun _ r => r = .bool true) := by
  have h1 := sameInts_calls h h2
  rw [decide_eq_true rfl] at h1
  exact h1
set_option maxRecDepth 100000 in
set_option maxHeartbeats 8000000 in
theorem walkExprRewrites {S : Nat → Prop} {w : World} {e : Ex} {v : Value} (hT : Tab w) (h : ExprV S w e v) (vars value : Int) (hvw : WF value) : Calls Tryd.prog 10 #[v, .int .i64 vars, .int .i64 value] w (Post w fun _ r => r = .bool true) := by
  have HE := h
  obtain ⟨a, cap, rfl, eo, en, ae, l1, l2⟩ := h.parts
  obtain ⟨w0, hw0⟩ : ∃ w0, w0 = w.alloc (.cells #[.int .i64 e.op, .int .i64 e.num, .slice a e.args.length cap] 24) := ⟨_, rfl⟩
  have e0 : Below w.heap.size w w0 := by rw [hw0]; exact ext_alloc w _
  have rE : Row w0 w.heap.size 24 [.int .i64 e.op, .int .i64 e.num, .slice a e.args.length cap] := by rw [hw0]; exact row_new w [.int .i64 e.op, .int .i64 e.num, .slice a e.args.length cap] 24
  have HE := HE.ext e0
  have TT := hT.ext e0
  have EE := e0
  have AW := Lib.hid (fun W (hW : Below w0.heap.size w0 W) => awake_calls (TT.ext hW))
  have FE := Lib.hid (fun W (hW : Below w0.heap.size w0 W) => few_calls (HE.ext hW))
  obtain ⟨b1, hb1⟩ : ∃ x, x = fewE e := ⟨_, rfl⟩
  rw [← hb1] at FE
  have SZ := Lib.hid (fun h => fewE_size (e := e) (hb1 ▸ h))
  clear hb1
  go_enter Tryd.func10, Tryd.ntmps10
  go_wp2_with fail
  rw [← hw0]
  have hb0 := Below.refl w0.heap.size w0
  clear hw0 e0 hT
  obtain ⟨xrE0, xrE1, xrE2⟩ := rE.three
  have ltrE := rE.lt
  go_wp2_with fail
  refine (FE.out _ hb0).mono ?_
  rintro _ w1 ⟨_, rfl, hz, rfl⟩
  have hb1 := ext_trans hb0 hz
  clear ltrE xrE0 xrE1 xrE2
  have rE := rE.ext hz
  clear hz
  obtain ⟨xrE0, xrE1, xrE2⟩ := rE.three
  have ltrE := rE.lt
  cases b1 with
  | false =>
    go_wp2_with fail
    refine (AW.out _ hb1).mono ?_
    rintro _ w2 ⟨_, rfl, hz, rfl⟩
    have hb2 := ext_trans hb1 hz
    clear ltrE xrE0 xrE1 xrE2
    have rE := rE.ext hz
    clear hz
    obtain ⟨xrE0, xrE1, xrE2⟩ := rE.three
    have ltrE := rE.lt
    go_wp2
    go_ret
    exact .mk (ext_trans EE hb2) rfl
  | true =>
    have HSZ : sizeE e ≤ 1000 := SZ.out (by first | exact trivial | rfl)
    obtain ⟨X, hX⟩ : ∃ x, x = (negR e vars).1 := ⟨_, rfl⟩
    obtain ⟨f1, hf1⟩ : ∃ x, x = (negR e vars).2 := ⟨_, rfl⟩
    obtain ⟨Y, hY⟩ : ∃ x, x = (bindR e vars value).1 := ⟨_, rfl⟩
    obtain ⟨f2, hf2⟩ : ∃ x, x = (bindR e vars value).2 := ⟨_, rfl⟩
    obtain ⟨L, hL⟩ : ∃ x, x = (freeR e vars).1 := ⟨_, rfl⟩
    obtain ⟨f3, hf3⟩ : ∃ x, x = (freeR e vars).2 := ⟨_, rfl⟩
    have F1 := Lib.hid (show negR e vars = (X, f1) by rw [hX, hf1])
    have F2 := Lib.hid (show bindR e vars value = (Y, f2) by rw [hY, hf2])
    have F3 := Lib.hid (show freeR e vars = (L, f3) by rw [hL, hf3])
    have HVW := Lib.hid hvw
    clear hX hf1 hY hf2 hL hf3 hvw
    have HSZ := Lib.hid HSZ
    have C1 := Lib.hid (fun W (hW : Below w0.heap.size w0 W) => negV_calls (TT.ext hW) (HE.ext hW) HSZ.out vars F1.out)
    go_wp2_with fail
    refine (C1.out _ hb1).mono ?_
    rintro _ w2 ⟨_, rfl, hz, u, rfl, hx⟩
    have hb2 := ext_trans hb1 hz
    clear ltrE xrE0 xrE1 xrE2
    have rE := rE.ext hz
    obtain ⟨a5, c5, rfl, _⟩ := hx.parts
    clear hz
    obtain ⟨xrE0, xrE1, xrE2⟩ := rE.three
    have ltrE := rE.lt
    go_wp2_with fail
    obtain ⟨wa, hw⟩ : ∃ w, w = w2.alloc (.cells #[.int .i64 X.op, .int .i64 X.num, .slice a5 X.args.length c5] 24) := ⟨_, rfl⟩
    rw [← hw]
    obtain ⟨G5, hG⟩ : ∃ G, G = w2.heap.size := ⟨_, rfl⟩
    have r5 : Row wa G5 24 [.int .i64 X.op, .int .i64 X.num, .slice a5 X.args.length c5] := by rw [hw, hG]; exact row_new _ _ _
    have hal : Below w2.heap.size w2 wa := by rw [hw]; exact ext_alloc _ _
    rw [← hG]
    clear hw hG
    have hba := ext_trans hb2 hal
    clear ltrE xrE0 xrE1 xrE2
    have rE := rE.ext hal
    have hx := hx.ext hal
    have HE := HE.ext hba
    have TT := TT.ext hba
    have EE := ext_trans EE hba
    have AW := Lib.hid (fun W (hW : Below wa.heap.size wa W) => awake_calls (TT.ext hW))
    have hrwa := Below.refl wa.heap.size wa
    clear hal hba
    obtain ⟨xrE0, xrE1, xrE2⟩ := rE.three
    have ltrE := rE.lt
    obtain ⟨pr50, pr51, pr52⟩ := r5.three
    have ltr5 := r5.lt
    have C2 := Lib.hid (fun W (hW : Below wa.heap.size wa W) => refNegV_calls (HE.ext hW) HSZ.out vars F1.out)
    refine (C2.out _ hrwa).mono ?_
    rintro _ w3 ⟨_, rfl, hz, u, rfl, hy⟩
    have hb3 := ext_trans hrwa hz
    clear ltrE ltr5 xrE0 xrE1 xrE2 pr50 pr51 pr52
    have rE := rE.ext hz
    have r5 := r5.ext hz
    obtain ⟨a6, c6, rfl, _⟩ := hy.parts
    clear hz
    obtain ⟨xrE0, xrE1, xrE2⟩ := rE.three
    have ltrE := rE.lt
    obtain ⟨pr50, pr51, pr52⟩ := r5.three
    have ltr5 := r5.lt
    go_wp2_with fail
    obtain ⟨wb, hw⟩ : ∃ w, w = w3.alloc (.cells #[.int .i64 X.op, .int .i64 X.num, .slice a6 X.args.length c6] 24) := ⟨_, rfl⟩
    rw [← hw]
    obtain ⟨G6, hG⟩ : ∃ G, G = w3.heap.size := ⟨_, rfl⟩
    have r6 : Row wb G6 24 [.int .i64 X.op, .int .i64 X.num, .slice a6 X.args.length c6] := by rw [hw, hG]; exact row_new _ _ _
    have hal : Below w3.heap.size w3 wb := by rw [hw]; exact ext_alloc _ _
    rw [← hG]
    clear hw hG
    have hba := ext_trans hb3 hal
    clear ltrE ltr5 xrE0 xrE1 xrE2 pr50 pr51 pr52
    have rE := rE.ext hal
    have r5 := r5.ext hal
    have hy := hy.ext hal
    have HE := HE.ext hba
    have hx := hx.ext hba
    have TT := TT.ext hba
    have EE := ext_trans EE hba
    have AW := Lib.hid (fun W (hW : Below wb.heap.size wb W) => awake_calls (TT.ext hW))
    have hrwb := Below.refl wb.heap.size wb
    clear hal hba
    obtain ⟨xrE0, xrE1, xrE2⟩ := rE.three
    have ltrE := rE.lt
    obtain ⟨pr50, pr51, pr52⟩ := r5.three
    have ltr5 := r5.lt
    obtain ⟨qr60, qr61, qr62⟩ := r6.three
    have ltr6 := r6.lt
    have C3 := Lib.hid (fun W (hW : Below wb.heap.size wb W) => bindV_calls (TT.ext hW) (HE.ext hW) HSZ.out vars value HVW.out F2.out)
    refine (C3.out _ hrwb).mono ?_
    rintro _ w4 ⟨_, rfl, hz, u, rfl, hp⟩
    have hb4 := ext_trans hrwb hz
    clear ltrE ltr5 ltr6 xrE0 xrE1 xrE2 pr50 pr51 pr52 qr60 qr61 qr62
    have rE := rE.ext hz
    have r5 := r5.ext hz
    have r6 := r6.ext hz
    obtain ⟨a7, c7, rfl, _⟩ := hp.parts
    clear hz
    obtain ⟨xrE0, xrE1, xrE2⟩ := rE.three
    have ltrE := rE.lt
    obtain ⟨pr50, pr51, pr52⟩ := r5.three
    have ltr5 := r5.lt
    obtain ⟨qr60, qr61, qr62⟩ := r6.three
    have ltr6 := r6.lt
    go_wp2_with fail
    obtain ⟨wc, hw⟩ : ∃ w, w = w4.alloc (.cells #[.int .i64 Y.op, .int .i64 Y.num, .slice a7 Y.args.length c7] 24) := ⟨_, rfl⟩
    rw [← hw]
    obtain ⟨G7, hG⟩ : ∃ G, G = w4.heap.size := ⟨_, rfl⟩
    have r7 : Row wc G7 24 [.int .i64 Y.op, .int .i64 Y.num, .slice a7 Y.args.length c7] := by rw [hw, hG]; exact row_new _ _ _
    have hal : Below w4.heap.size w4 wc := by rw [hw]; exact ext_alloc _ _
    rw [← hG]
    clear hw hG
    have hba := ext_trans hb4 hal
    clear ltrE ltr5 ltr6 xrE0 xrE1 xrE2 pr50 pr51 pr52 qr60 qr61 qr62
    have rE := rE.ext hal
    have r5 := r5.ext hal
    have r6 := r6.ext hal
    have hp := hp.ext hal
    have HE := HE.ext hba
    have hx := hx.ext hba
    have hy := hy.ext hba
    have TT := TT.ext hba
    have EE := ext_trans EE hba
    have AW := Lib.hid (fun W (hW : Below wc.heap.size wc W) => awake_calls (TT.ext hW))
    have hrwc := Below.refl wc.heap.size wc
    clear hal hba
    obtain ⟨xrE0, xrE1, xrE2⟩ := rE.three
    have ltrE := rE.lt
    obtain ⟨pr50, pr51, pr52⟩ := r5.three
    have ltr5 := r5.lt
    obtain ⟨qr60, qr61, qr62⟩ := r6.three
    have ltr6 := r6.lt
    obtain ⟨sr70, sr71, sr72⟩ := r7.three
    have ltr7 := r7.lt
    have C4 := Lib.hid (fun W (hW : Below wc.heap.size wc W) => refBindV_calls (HE.ext hW) HSZ.out vars value HVW.out F2.out)
    refine (C4.out _ hrwc).mono ?_
    rintro _ w5 ⟨_, rfl, hz, u, rfl, hq⟩
    have hb5 := ext_trans hrwc hz
    clear ltrE ltr5 ltr6 ltr7 xrE0 xrE1 xrE2 pr50 pr51 pr52 qr60 qr61 qr62 sr70 sr71 sr72
    have rE := rE.ext hz
    have r5 := r5.ext hz
    have r6 := r6.ext hz
    have r7 := r7.ext hz
    obtain ⟨a8, c8, rfl, _⟩ := hq.parts
    clear hz
    obtain ⟨xrE0, xrE1, xrE2⟩ := rE.three
    have ltrE := rE.lt
    obtain ⟨pr50, pr51, pr52⟩ := r5.three
    have ltr5 := r5.lt
    obtain ⟨qr60, qr61, qr62⟩ := r6.three
    have ltr6 := r6.lt
    obtain ⟨sr70, sr71, sr72⟩ := r7.three
    have ltr7 := r7.lt
    go_wp2_with fail
    obtain ⟨wd, hw⟩ : ∃ w, w = w5.alloc (.cells #[.int .i64 Y.op, .int .i64 Y.num, .slice a8 Y.args.length c8] 24) := ⟨_, rfl⟩
    rw [← hw]
    obtain ⟨G8, hG⟩ : ∃ G, G = w5.heap.size := ⟨_, rfl⟩
    have r8 : Row wd G8 24 [.int .i64 Y.op, .int .i64 Y.num, .slice a8 Y.args.length c8] := by rw [hw, hG]; exact row_new _ _ _
    have hal : Below w5.heap.size w5 wd := by rw [hw]; exact ext_alloc _ _
    rw [← hG]
    clear hw hG
    have hba := ext_trans hb5 hal
    clear ltrE ltr5 ltr6 ltr7 xrE0 xrE1 xrE2 pr50 pr51 pr52 qr60 qr61 qr62 sr70 sr71 sr72
    have rE := rE.ext hal
    have r5 := r5.ext hal
    have r6 := r6.ext hal
    have r7 := r7.ext hal
    have hq := hq.ext hal
    have HE := HE.ext hba
    have hx := hx.ext hba
    have hy := hy.ext hba
    have hp := hp.ext hba
    have TT := TT.ext hba
    have EE := ext_trans EE hba
    have AW := Lib.hid (fun W (hW : Below wd.heap.size wd W) => awake_calls (TT.ext hW))
    have hrwd := Below.refl wd.heap.size wd
    clear hal hba
    obtain ⟨xrE0, xrE1, xrE2⟩ := rE.three
    have ltrE := rE.lt
    obtain ⟨pr50, pr51, pr52⟩ := r5.three
    have ltr5 := r5.lt
    obtain ⟨qr60, qr61, qr62⟩ := r6.three
    have ltr6 := r6.lt
    obtain ⟨sr70, sr71, sr72⟩ := r7.three
    have ltr7 := r7.lt
    obtain ⟨tr80, tr81, tr82⟩ := r8.three
    have ltr8 := r8.lt
    have C5 := Lib.hid (fun W (hW : Below wd.heap.size wd W) => freeV_calls (TT.ext hW) (HE.ext hW) HSZ.out vars F3.out)
    refine (C5.out _ hrwd).mono ?_
    rintro _ w6 ⟨_, rfl, hz, u1, rfl, HI1⟩
    have hb6 := ext_trans hrwd hz
    clear ltrE ltr5 ltr6 ltr7 ltr8 xrE0 xrE1 xrE2 pr50 pr51 pr52 qr60 qr61 qr62 sr70 sr71 sr72 tr80 tr81 tr82
    have rE := rE.ext hz
    have r5 := r5.ext hz
    have r6 := r6.ext hz
    have r7 := r7.ext hz
    have r8 := r8.ext hz
    clear hz
    obtain ⟨xrE0, xrE1, xrE2⟩ := rE.three
    have ltrE := rE.lt
    obtain ⟨pr50, pr51, pr52⟩ := r5.three
    have ltr5 := r5.lt
    obtain ⟨qr60, qr61, qr62⟩ := r6.three
    have ltr6 := r6.lt
    obtain ⟨sr70, sr71, sr72⟩ := r7.three
    have ltr7 := r7.lt
    obtain ⟨tr80, tr81, tr82⟩ := r8.three
    have ltr8 := r8.lt
    have C6 := Lib.hid (fun W (hW : Below wd.heap.size wd W) => refFreeV_calls (HE.ext hW) HSZ.out vars F3.out)
    go_wp2_with fail
    refine (C6.out _ hb6).mono ?_
    rintro _ w7 ⟨_, rfl, hz, u2, rfl, HI2⟩
    have hb7 := ext_trans hb6 hz
    clear ltrE ltr5 ltr6 ltr7 ltr8 xrE0 xrE1 xrE2 pr50 pr51 pr52 qr60 qr61 qr62 sr70 sr71 sr72 tr80 tr81 tr82
    have rE := rE.ext hz
    have r5 := r5.ext hz
    have r6 := r6.ext hz
    have r7 := r7.ext hz
    have r8 := r8.ext hz
    have HI1 := HI1.ext hz
    clear hz
    obtain ⟨xrE0, xrE1, xrE2⟩ := rE.three
    have ltrE := rE.lt
    obtain ⟨pr50, pr51, pr52⟩ := r5.three
    have ltr5 := r5.lt
    obtain ⟨qr60, qr61, qr62⟩ := r6.three
    have ltr6 := r6.lt
    obtain ⟨sr70, sr71, sr72⟩ := r7.three
    have ltr7 := r7.lt
    obtain ⟨tr80, tr81, tr82⟩ := r8.three
    have ltr8 := r8.lt
    have C7 := Lib.hid (fun W (hW : Below wd.heap.size wd W) => refSameV_calls (hx.ext hW) (hy.ext hW) (b := true) (by rw [sameE_eq]))
    have C8 := Lib.hid (fun W (hW : Below wd.heap.size wd W) => refSameV_calls (hp.ext hW) (hq.ext hW) (b := true) (by rw [sameE_eq]))
    go_wp2_with fail
    refine (C7.out _ hb7).mono ?_
    rintro _ w8 ⟨_, rfl, hz, rfl⟩
    have hb8 := ext_trans hb7 hz
    clear ltrE ltr5 ltr6 ltr7 ltr8 xrE0 xrE1 xrE2 pr50 pr51 pr52 qr60 qr61 qr62 sr70 sr71 sr72 tr80 tr81 tr82
    have rE := rE.ext hz
    have r5 := r5.ext hz
    have r6 := r6.ext hz
    have r7 := r7.ext hz
    have r8 := r8.ext hz
    have HI1 := HI1.ext hz
    have HI2 := HI2.ext hz
    clear hz
    obtain ⟨xrE0, xrE1, xrE2⟩ := rE.three
    have ltrE := rE.lt
    obtain ⟨pr50, pr51, pr52⟩ := r5.three
    have ltr5 := r5.lt
    obtain ⟨qr60, qr61, qr62⟩ := r6.three
    have ltr6 := r6.lt
    obtain ⟨sr70, sr71, sr72⟩ := r7.three
    have ltr7 := r7.lt
    obtain ⟨tr80, tr81, tr82⟩ := r8.three
    have ltr8 := r8.lt
    go_wp2_with fail
    refine (C8.out _ hb8).mono ?_
    rintro _ w9 ⟨_, rfl, hz, rfl⟩
    have hb9 := ext_trans hb8 hz
    clear ltrE ltr5 ltr6 ltr7 ltr8 xrE0 xrE1 xrE2 pr50 pr51 pr52 qr60 qr61 qr62 sr70 sr71 sr72 tr80 tr81 tr82
    have rE := rE.ext hz
    have r5 := r5.ext hz
    have r6 := r6.ext hz
    have r7 := r7.ext hz
    have r8 := r8.ext hz
    have HI1 := HI1.ext hz
    have HI2 := HI2.ext hz
    clear hz
    obtain ⟨xrE0, xrE1, xrE2⟩ := rE.three
    have ltrE := rE.lt
    obtain ⟨pr50, pr51, pr52⟩ := r5.three
    have ltr5 := r5.lt
    obtain ⟨qr60, qr61, qr62⟩ := r6.three
    have ltr6 := r6.lt
    obtain ⟨sr70, sr71, sr72⟩ := r7.three
    have ltr7 := r7.lt
    obtain ⟨tr80, tr81, tr82⟩ := r8.three
    have ltr8 := r8.lt
    go_wp2_with fail
    refine (sameIntsV_calls HI1 HI2).mono ?_
    rintro _ w10 ⟨_, rfl, hz, rfl⟩
    have hb10 := ext_trans hb9 hz
    clear HI1 HI2
    clear ltrE ltr5 ltr6 ltr7 ltr8 xrE0 xrE1 xrE2 pr50 pr51 pr52 qr60 qr61 qr62 sr70 sr71 sr72 tr80 tr81 tr82
    have rE := rE.ext hz
    have r5 := r5.ext hz
    have r6 := r6.ext hz
    have r7 := r7.ext hz
    have r8 := r8.ext hz
    clear hz
    obtain ⟨xrE0, xrE1, xrE2⟩ := rE.three
    have ltrE := rE.lt
    obtain ⟨pr50, pr51, pr52⟩ := r5.three
    have ltr5 := r5.lt
    obtain ⟨qr60, qr61, qr62⟩ := r6.three
    have ltr6 := r6.lt
    obtain ⟨sr70, sr71, sr72⟩ := r7.three
    have ltr7 := r7.lt
    obtain ⟨tr80, tr81, tr82⟩ := r8.three
    have ltr8 := r8.lt
    obtain ⟨t1, ht1⟩ : ∃ x, x = sameE e X := ⟨_, rfl⟩
    obtain ⟨t2, ht2⟩ : ∃ x, x = sameE Y e := ⟨_, rfl⟩
    have D1 := Lib.hid (fun W (hW : Below wd.heap.size wd W) => sameV_calls (HE.ext hW) (HE.ext hW) (b := true) (by rw [sameE_eq]))
    have D2 := Lib.hid (fun W (hW : Below wd.heap.size wd W) => sameV_calls (HE.ext hW) (hy.ext hW) ht1.symm)
    have D3 := Lib.hid (fun W (hW : Below wd.heap.size wd W) => refSameV_calls (HE.ext hW) (hy.ext hW) ht1.symm)
    have D4 := Lib.hid (fun W (hW : Below wd.heap.size wd W) => sameV_calls (hq.ext hW) (HE.ext hW) ht2.symm)
    have D5 := Lib.hid (fun W (hW : Below wd.heap.size wd W) => refSameV_calls (hq.ext hW) (HE.ext hW) ht2.symm)
    clear ht1 ht2
    go_upto_region 11 with fail
    have KEEPT := Lib.hid (show True from trivial)
    have hrefl := Below.refl w10.heap.size w10
    have KEEP : ∀ W', Below w10.heap.size w10 W' → (fun w' : World => w'.cell? ⟨w.heap.size, 0, none⟩ = some (.int .i64 e.op) ∧ w'.cell? ⟨w.heap.size, 1, none⟩ = some (.int .i64 e.num) ∧ w'.cell? ⟨w.heap.size, 2, none⟩ = some (.slice a e.args.length cap) ∧ w'.cell? ⟨G5, 0, none⟩ = some (.int .i64 X.op) ∧ w'.cell? ⟨G5, 1, none⟩ = some (.int .i64 X.num) ∧ w'.cell? ⟨G5, 2, none⟩ = some (.slice a5 X.args.length c5) ∧ w'.cell? ⟨G6, 0, none⟩ = some (.int .i64 X.op) ∧ w'.cell? ⟨G6, 1, none⟩ = some (.int .i64 X.num) ∧ w'.cell? ⟨G6, 2, none⟩ = some (.slice a6 X.args.length c6) ∧ w'.cell? ⟨G7, 0, none⟩ = some (.int .i64 Y.op) ∧ w'.cell? ⟨G7, 1, none⟩ = some (.int .i64 Y.num) ∧ w'.cell? ⟨G7, 2, none⟩ = some (.slice a7 Y.args.length c7) ∧ w'.cell? ⟨G8, 0, none⟩ = some (.int .i64 Y.op) ∧ w'.cell? ⟨G8, 1, none⟩ = some (.int .i64 Y.num) ∧ w'.cell? ⟨G8, 2, none⟩ = some (.slice a8 Y.args.length c8) ∧ Below wd.heap.size wd w') W' := fun W' hW' => ⟨cell_ext xrE0 hW', cell_ext xrE1 hW', cell_ext xrE2 hW', cell_ext pr50 hW', cell_ext pr51 hW', cell_ext pr52 hW', cell_ext qr60 hW', cell_ext qr61 hW', cell_ext qr62 hW', cell_ext sr70 hW', cell_ext sr71 hW', cell_ext sr72 hW', cell_ext tr80 hW', cell_ext tr81 hW', cell_ext tr82 hW', ext_trans hb10 hW'⟩
    have KEEP := Lib.hid KEEP
    go_region_held3 (fun w' : World => w'.cell? ⟨w.heap.size, 0, none⟩ = some (.int .i64 e.op) ∧ w'.cell? ⟨w.heap.size, 1, none⟩ = some (.int .i64 e.num) ∧ w'.cell? ⟨w.heap.size, 2, none⟩ = some (.slice a e.args.length cap) ∧ w'.cell? ⟨G5, 0, none⟩ = some (.int .i64 X.op) ∧ w'.cell? ⟨G5, 1, none⟩ = some (.int .i64 X.num) ∧ w'.cell? ⟨G5, 2, none⟩ = some (.slice a5 X.args.length c5) ∧ w'.cell? ⟨G6, 0, none⟩ = some (.int .i64 X.op) ∧ w'.cell? ⟨G6, 1, none⟩ = some (.int .i64 X.num) ∧ w'.cell? ⟨G6, 2, none⟩ = some (.slice a6 X.args.length c6) ∧ w'.cell? ⟨G7, 0, none⟩ = some (.int .i64 Y.op) ∧ w'.cell? ⟨G7, 1, none⟩ = some (.int .i64 Y.num) ∧ w'.cell? ⟨G7, 2, none⟩ = some (.slice a7 Y.args.length c7) ∧ w'.cell? ⟨G8, 0, none⟩ = some (.int .i64 Y.op) ∧ w'.cell? ⟨G8, 1, none⟩ = some (.int .i64 Y.num) ∧ w'.cell? ⟨G8, 2, none⟩ = some (.slice a8 Y.args.length c8) ∧ Below wd.heap.size wd w')
      (first | (apply KEEP.out; first | assumption | (apply Below.drew; assumption)))
      (first | (go_at_call 13; have _p := T4; refine (AW.out _ (ext_trans hb10 (by first | exact hF4 | exact hF4.drew))).mono ?_; rintro _ wf5 ⟨_, rfl, hbf5, rfl⟩; have hF5 : Below w10.heap.size w10 wf5 := ext_trans (by first | exact hF4 | exact hF4.drew) hbf5; have T5 : True := trivial) | (go_at_call 20; have _p := T3; refine (D5.out _ (ext_trans hb10 (by first | exact hF3 | exact hF3.drew))).mono ?_; rintro _ wf4 ⟨_, rfl, hbf4, rfl⟩; have hF4 : Below w10.heap.size w10 wf4 := ext_trans (by first | exact hF3 | exact hF3.drew) hbf4; have T4 : True := trivial) | (go_at_call 38; have _p := T2; refine (D4.out _ (ext_trans hb10 (by first | exact hF2 | exact hF2.drew))).mono ?_; rintro _ wf3 ⟨_, rfl, hbf3, rfl⟩; have hF3 : Below w10.heap.size w10 wf3 := ext_trans (by first | exact hF2 | exact hF2.drew) hbf3; have T3 : True := trivial) | (go_at_call 20; have _p := T1; refine (D3.out _ (ext_trans hb10 (by first | exact hF1 | exact hF1.drew))).mono ?_; rintro _ wf2 ⟨_, rfl, hbf2, rfl⟩; have hF2 : Below w10.heap.size w10 wf2 := ext_trans (by first | exact hF1 | exact hF1.drew) hbf2; have T2 : True := trivial) | (go_at_call 38; have _p := T0; refine (D2.out _ (ext_trans hb10 (by first | exact hF0 | exact hF0.drew))).mono ?_; rintro _ wf1 ⟨_, rfl, hbf1, rfl⟩; have hF1 : Below w10.heap.size w10 wf1 := ext_trans (by first | exact hF0 | exact hF0.drew) hbf1; have T1 : True := trivial) | (go_at_call 38; refine (D1.out _ (ext_trans hb10 (by first | exact hrefl | exact hrefl.drew))).mono ?_; rintro _ wf0 ⟨_, rfl, hbf0, rfl⟩; have hF0 : Below w10.heap.size w10 wf0 := ext_trans (by first | exact hrefl | exact hrefl.drew) hbf0; have T0 : True := trivial))
    all_goals
      go_wp2_with fail
      go_ret
      exact .mk (ext_trans EE (ext_trans hb10 hF5)) rfl
end Go.Proofs.YtifkkajgcekafaaDoor
