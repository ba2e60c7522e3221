/- The walk of ExprFolds. -/
import Derived.Test.YtifkkajgcekafaaDoorExAwake
import Derived.Test.YtifkkajgcekafaaDoorExLaw0
import Derived.Test.YtifkkajgcekafaaDoorExRFold3
namespace Go.Proofs.YtifkkajgcekafaaDoor
set_option linter.unusedVariables false
open Go.RowKit
attribute [local go_sem ↓] Go.wp_at_zero Go.wp_at_succ

theorem refFoldV_calls {S : Nat → Prop} {w : World} {e x : Ex} {v : Value} {f : Int} (h : ExprV S w e v) (hsz : sizeE e ≤ 1000) (vars : Int) (he : foldR e vars = (x, f)) :
    Calls Tryd.prog 19 #[v, .int .i64 vars] w (Post w fun W' r => ∃ u, r = .tuple #[u, .int .i64 f] ∧ ExprV (fun b => w.heap.size ≤ b) W' x u) := by
  have h1 := refFold_calls h hsz vars
  rw [he] at h1
  exact h1
set_option maxRecDepth 100000 in
set_option maxHeartbeats 8000000 in
theorem walkExprFolds {S : Nat → Prop} {w : World} {e : Ex} {v : Value} (hT : Tab w) (h : ExprV S w e v) (vars : Int) : Calls Tryd.prog 4 #[v, .int .i64 vars] w (Post w fun _ r => r = .bool true) := by
  have HE := h
  obtain ⟨a, cap, rfl, eo, en, ae, l1, l2⟩ := h.parts
  obtain ⟨w0, hw0⟩ : ∃ w0, w0 = w.alloc (.cells #[.int .i64 e.op, .int .i64 e.num, .slice a e.args.length cap] 24) := ⟨_, rfl⟩
  have e0 : Below w.heap.size w w0 := by rw [hw0]; exact ext_alloc w _
  have rE : Row w0 w.heap.size 24 [.int .i64 e.op, .int .i64 e.num, .slice a e.args.length cap] := by rw [hw0]; exact row_new w [.int .i64 e.op, .int .i64 e.num, .slice a e.args.length cap] 24
  have HE := HE.ext e0
  have TT := hT.ext e0
  have EE := e0
  have AW := Lib.hid (fun W (hW : Below w0.heap.size w0 W) => awake_calls (TT.ext hW))
  have FE := Lib.hid (fun W (hW : Below w0.heap.size w0 W) => few_calls (HE.ext hW))
  obtain ⟨b1, hb1⟩ : ∃ x, x = fewE e := ⟨_, rfl⟩
  rw [← hb1] at FE
  have SZ := Lib.hid (fun h => fewE_size (e := e) (hb1 ▸ h))
  clear hb1
  go_enter Tryd.func4, Tryd.ntmps4
  go_wp2_with fail
  rw [← hw0]
  have hb0 := Below.refl w0.heap.size w0
  clear hw0 e0 hT
  obtain ⟨xrE0, xrE1, xrE2⟩ := rE.three
  have ltrE := rE.lt
  go_wp2_with fail
  refine (FE.out _ hb0).mono ?_
  rintro _ w1 ⟨_, rfl, hz, rfl⟩
  have hb1 := ext_trans hb0 hz
  clear ltrE xrE0 xrE1 xrE2
  have rE := rE.ext hz
  clear hz
  obtain ⟨xrE0, xrE1, xrE2⟩ := rE.three
  have ltrE := rE.lt
  cases b1 with
  | false =>
    go_wp2_with fail
    refine (AW.out _ hb1).mono ?_
    rintro _ w2 ⟨_, rfl, hz, rfl⟩
    have hb2 := ext_trans hb1 hz
    clear ltrE xrE0 xrE1 xrE2
    have rE := rE.ext hz
    clear hz
    obtain ⟨xrE0, xrE1, xrE2⟩ := rE.three
    have ltrE := rE.lt
    go_wp2
    go_ret
    exact .mk (ext_trans EE hb2) rfl
  | true =>
    have HSZ : sizeE e ≤ 1000 := SZ.out (by first | exact trivial | rfl)
    obtain ⟨X, hX⟩ : ∃ x, x = (foldR e vars).1 := ⟨_, rfl⟩
    obtain ⟨f, hf⟩ : ∃ x, x = (foldR e vars).2 := ⟨_, rfl⟩
    have F1 := Lib.hid (show foldR e vars = (X, f) by rw [hX, hf])
    clear hX hf
    have C1 := Lib.hid (fun W (hW : Below w0.heap.size w0 W) => foldV_calls (TT.ext hW) (HE.ext hW) HSZ vars F1.out)
    have HSZ := Lib.hid HSZ
    go_wp2_with fail
    refine (C1.out _ hb1).mono ?_
    rintro _ w2 ⟨_, rfl, hz, u, rfl, hx⟩
    have hb2 := ext_trans hb1 hz
    clear ltrE xrE0 xrE1 xrE2
    have rE := rE.ext hz
    obtain ⟨a5, c5, rfl, _⟩ := hx.parts
    clear hz
    obtain ⟨xrE0, xrE1, xrE2⟩ := rE.three
    have ltrE := rE.lt
    go_wp2_with fail
    obtain ⟨wa, hw⟩ : ∃ w, w = w2.alloc (.cells #[.int .i64 X.op, .int .i64 X.num, .slice a5 X.args.length c5] 24) := ⟨_, rfl⟩
    rw [← hw]
    obtain ⟨G5, hG⟩ : ∃ G, G = w2.heap.size := ⟨_, rfl⟩
    have r5 : Row wa G5 24 [.int .i64 X.op, .int .i64 X.num, .slice a5 X.args.length c5] := by rw [hw, hG]; exact row_new _ _ _
    have hal : Below w2.heap.size w2 wa := by rw [hw]; exact ext_alloc _ _
    rw [← hG]
    clear hw hG
    have hba := ext_trans hb2 hal
    clear ltrE xrE0 xrE1 xrE2
    have rE := rE.ext hal
    have hx := hx.ext hal
    have HE := HE.ext hba
    have TT := TT.ext hba
    have EE := ext_trans EE hba
    have AW := Lib.hid (fun W (hW : Below wa.heap.size wa W) => awake_calls (TT.ext hW))
    have hrwa := Below.refl wa.heap.size wa
    clear hal hba
    obtain ⟨xrE0, xrE1, xrE2⟩ := rE.three
    have ltrE := rE.lt
    obtain ⟨pr50, pr51, pr52⟩ := r5.three
    have ltr5 := r5.lt
    have C2 := Lib.hid (fun W (hW : Below wa.heap.size wa W) => refFoldV_calls (HE.ext hW) HSZ.out vars F1.out)
    refine (C2.out _ hrwa).mono ?_
    rintro _ w3 ⟨_, rfl, hz, u, rfl, hy⟩
    have hb3 := ext_trans hrwa hz
    clear ltrE ltr5 xrE0 xrE1 xrE2 pr50 pr51 pr52
    have rE := rE.ext hz
    have r5 := r5.ext hz
    obtain ⟨a6, c6, rfl, _⟩ := hy.parts
    clear hz
    obtain ⟨xrE0, xrE1, xrE2⟩ := rE.three
    have ltrE := rE.lt
    obtain ⟨pr50, pr51, pr52⟩ := r5.three
    have ltr5 := r5.lt
    go_wp2_with fail
    obtain ⟨wb, hw⟩ : ∃ w, w = w3.alloc (.cells #[.int .i64 X.op, .int .i64 X.num, .slice a6 X.args.length c6] 24) := ⟨_, rfl⟩
    rw [← hw]
    obtain ⟨G6, hG⟩ : ∃ G, G = w3.heap.size := ⟨_, rfl⟩
    have r6 : Row wb G6 24 [.int .i64 X.op, .int .i64 X.num, .slice a6 X.args.length c6] := by rw [hw, hG]; exact row_new _ _ _
    have hal : Below w3.heap.size w3 wb := by rw [hw]; exact ext_alloc _ _
    rw [← hG]
    clear hw hG
    have hba := ext_trans hb3 hal
    clear ltrE ltr5 xrE0 xrE1 xrE2 pr50 pr51 pr52
    have rE := rE.ext hal
    have r5 := r5.ext hal
    have hy := hy.ext hal
    have HE := HE.ext hba
    have hx := hx.ext hba
    have TT := TT.ext hba
    have EE := ext_trans EE hba
    have AW := Lib.hid (fun W (hW : Below wb.heap.size wb W) => awake_calls (TT.ext hW))
    have hrwb := Below.refl wb.heap.size wb
    clear hal hba
    obtain ⟨xrE0, xrE1, xrE2⟩ := rE.three
    have ltrE := rE.lt
    obtain ⟨pr50, pr51, pr52⟩ := r5.three
    have ltr5 := r5.lt
    obtain ⟨qr60, qr61, qr62⟩ := r6.three
    have ltr6 := r6.lt
    have C3 := Lib.hid (fun W (hW : Below wb.heap.size wb W) => refSameV_calls (hx.ext hW) (hy.ext hW) (b := true) (by rw [sameE_eq]))
    refine (AW.out _ hrwb).mono ?_
    rintro _ w4 ⟨_, rfl, hz, rfl⟩
    have hb4 := ext_trans hrwb hz
    clear ltrE ltr5 ltr6 xrE0 xrE1 xrE2 pr50 pr51 pr52 qr60 qr61 qr62
    have rE := rE.ext hz
    have r5 := r5.ext hz
    have r6 := r6.ext hz
    clear hz
    obtain ⟨xrE0, xrE1, xrE2⟩ := rE.three
    have ltrE := rE.lt
    obtain ⟨pr50, pr51, pr52⟩ := r5.three
    have ltr5 := r5.lt
    obtain ⟨qr60, qr61, qr62⟩ := r6.three
    have ltr6 := r6.lt
    go_wp2_with fail
    refine (C3.out _ hb4).mono ?_
    rintro _ w5 ⟨_, rfl, hz, rfl⟩
    have hb5 := ext_trans hb4 hz
    clear ltrE ltr5 ltr6 xrE0 xrE1 xrE2 pr50 pr51 pr52 qr60 qr61 qr62
    have rE := rE.ext hz
    have r5 := r5.ext hz
    have r6 := r6.ext hz
    clear hz
    obtain ⟨xrE0, xrE1, xrE2⟩ := rE.three
    have ltrE := rE.lt
    obtain ⟨pr50, pr51, pr52⟩ := r5.three
    have ltr5 := r5.lt
    obtain ⟨qr60, qr61, qr62⟩ := r6.three
    have ltr6 := r6.lt
    go_wp2
    go_ret
    exact .mk (ext_trans EE hb5) rfl
end Go.Proofs.YtifkkajgcekafaaDoor
