/- The program's Fold and Negate. -/
import Derived.Test.YthogcbffnbhalaaDoorExFoldE
import Derived.Test.YthogcbffnbhalaaDoorExNegC
import Derived.Test.YthogcbffnbhalaaDoorExCopyI
namespace Go.Proofs.YthogcbffnbhalaaDoor
set_option linter.unusedVariables false
open Go.RowKit

def foldR (e : Ex) (vars : Int) : Ex × Int := if checkE e vars ≠ 0 then (numE 0, checkE e vars) else (foldE e, 0)
def negR (e : Ex) (vars : Int) : Ex × Int :=
  if checkE e vars ≠ 0 then (numE 0, checkE e vars) else if kindOf e.op ≠ 1 then (numE 0, 9) else if checkE (negE e) vars ≠ 0 then (numE 0, checkE (negE e) vars) else (negE e, 0)
/-- An expression and a number. -/
def PairP (S : Nat → Prop) (r : Ex × Int) (W : World) (v : Value) : Prop := ∃ u, v = .tuple #[u, .int .i64 r.2] ∧ ExprV S W r.1 u
theorem PairP.mk' {S : Nat → Prop} {r : Ex × Int} {W : World} {u : Value} {f : Int} {x : Ex} (h : r = (x, f)) (hx : ExprV S W x u) : PairP S r W (.tuple #[u, .int .i64 f]) := by
  subst h; exact ⟨u, rfl, hx⟩
theorem known_of_wf {vars : Int} {e : Ex} (h : Wf vars e) : 0 ≤ e.op ∧ e.op ≤ 15 := by
  cases h with
  | mk h0 =>
    rename_i op num xs _ _ _ _ _ _
    show 0 ≤ op ∧ op ≤ 15
    unfold arity at h0
    split at h0 <;> omega

set_option maxRecDepth 100000 in
set_option maxHeartbeats 1000000 in
theorem fold_calls {S : Nat → Prop} {w : World} {e : Ex} {v : Value} (hT : Tab w) (h : ExprV S w e v) (hsz : sizeE e ≤ 1000) (vars : Int) :
    Calls Tryd.prog 21 #[v, .int .i64 vars] w (Post w fun W' r => PairP (fun b => w.heap.size ≤ b) (foldR e vars) W' r) := by
  obtain ⟨a, cap, rfl, eo, en, ae, l1, l2⟩ := h.parts
  have HE := h
  have ex1 := ext_alloc' (ext_alloc w (.cells #[.int .i64 e.op, .int .i64 e.num, .slice a e.args.length cap] 24)) (.cells #[.int .i64 0, .int .i64 0, .slice none 0 0] 24)
  have r1 := (row_new w [.int .i64 e.op, .int .i64 e.num, .slice a e.args.length cap] 24).alloc (.cells #[.int .i64 0, .int .i64 0, .slice none 0 0] 24)
  have rR := row_new (w.alloc (.cells #[.int .i64 e.op, .int .i64 e.num, .slice a e.args.length cap] 24)) [.int .i64 0, .int .i64 0, .slice none 0 0] 24
  rw [World.size_alloc] at rR
  obtain ⟨c, hc⟩ : ∃ c, c = checkE e vars := ⟨_, rfl⟩
  have HC := Lib.hid hc
  have CHK := Lib.hid (check_calls (hT.ext ex1) (HE.ext ex1) (by omega) vars)
  rw [← hc] at CHK
  obtain ⟨R, hR⟩ : ∃ R, R = foldR e vars := ⟨_, rfl⟩
  rw [← hR]
  have HR := Lib.hid hR
  clear hc hR
  go_enter Tryd.func21, Tryd.ntmps21
  go_wp2_with fail
  refine CHK.out.mono ?_
  rintro _ w1 ⟨_, rfl, hb1, rfl⟩
  have e1 := ext_trans ex1 hb1
  obtain ⟨x0, x1, x2⟩ := (r1.ext hb1).three
  have rR1 := rR.ext hb1
  obtain ⟨r0, r1', r2⟩ := rR1.three
  have q0 := rR1.free 0
  have q1 := rR1.free 1
  have q2 := rR1.free 2
  have lR := rR1.lt
  by_cases hc0 : c = 0
  · have dc : (c != 0) = false := by simpa using hc0
    have HC0 := Lib.hid hc0
    clear hc0
    have hwf := (Wf.of_check (e := e) (vars := vars) (HC.out.symm.trans HC0.out)).1
    go_wp2_with fail
    refine (folded_all hwf _ w1 _ (HE.ext e1)).mono ?_
    rintro _ w2 ⟨v2, rfl, hb2, hx2⟩
    obtain ⟨X, hX⟩ : ∃ X, X = foldE e := ⟨_, rfl⟩
    rw [← hX] at hx2
    have HX := Lib.hid hX
    clear hX
    obtain ⟨a2, c2, rfl, _⟩ := hx2.parts
    have rR2 := rR1.ext hb2
    clear r0 r1' r2 q0 q1 q2
    obtain ⟨r0, r1', r2⟩ := rR2.three
    have q0 := rR2.free 0
    have q1 := rR2.free 1
    have q2 := rR2.free 2
    go_wp2
    refine bodyPost_ret (v := .tuple #[.agg #[.int .i64 X.op, .int .i64 X.num, .slice a2 X.args.length c2], .int .i64 0]) (by simp [results, Tryd.results21, go_sem, r0, r1', r2]) rfl ?_
    exact .mk (set3_below _ _ _ (ext_trans e1 hb2) (by omega)) (.mk' (x := X) (HR.out.trans (by unfold foldR; rw [← HC.out, if_neg (by rw [HC0.out]; simp), HX.out])) ((set3_expr (base := w1.heap.size) _ _ _ hx2 (by omega)).mono fun b h => by omega))
  · have dc : (c != 0) = true := by simpa using hc0
    have HC0 := Lib.hid hc0
    clear hc0
    go_wp2
    refine bodyPost_ret (v := .tuple #[.agg #[.int .i64 0, .int .i64 0, .slice none 0 0], .int .i64 c]) (by simp [results, Tryd.results21, go_sem, r0, r1', r2]) rfl ?_
    exact .mk (set3_below _ _ _ e1 (by omega)) (.mk' (x := numE 0) (HR.out.trans (by unfold foldR; rw [← HC.out, if_pos HC0.out])) (.nilargs _ _ (by unfold WF; omega) (by unfold WF; omega)))

set_option maxRecDepth 100000 in
set_option maxHeartbeats 2000000 in
theorem negate_calls {S : Nat → Prop} {w : World} {e : Ex} {v : Value} (hT : Tab w) (h : ExprV S w e v) (hsz : sizeE e ≤ 1000) (vars : Int) :
    Calls Tryd.prog 20 #[v, .int .i64 vars] w (Post w fun W' r => PairP (fun b => w.heap.size ≤ b) (negR e vars) W' r) := by
  obtain ⟨a, cap, rfl, eo, en, ae, l1, l2⟩ := h.parts
  have HE := h
  have ex1 := ext_alloc' (ext_alloc w (.cells #[.int .i64 e.op, .int .i64 e.num, .slice a e.args.length cap] 24)) (.cells #[.int .i64 0, .int .i64 0, .slice none 0 0] 24)
  have r1 := (row_new w [.int .i64 e.op, .int .i64 e.num, .slice a e.args.length cap] 24).alloc (.cells #[.int .i64 0, .int .i64 0, .slice none 0 0] 24)
  have rR := row_new (w.alloc (.cells #[.int .i64 e.op, .int .i64 e.num, .slice a e.args.length cap] 24)) [.int .i64 0, .int .i64 0, .slice none 0 0] 24
  rw [World.size_alloc] at rR
  obtain ⟨c, hc⟩ : ∃ c, c = checkE e vars := ⟨_, rfl⟩
  have HC := Lib.hid hc
  have CHK := Lib.hid (check_calls (hT.ext ex1) (HE.ext ex1) (by omega) vars)
  rw [← hc] at CHK
  obtain ⟨R, hR⟩ : ∃ R, R = negR e vars := ⟨_, rfl⟩
  rw [← hR]
  have HR := Lib.hid hR
  clear hc hR
  go_enter Tryd.func20, Tryd.ntmps20
  go_wp2_with fail
  refine CHK.out.mono ?_
  rintro _ w1 ⟨_, rfl, hb1, rfl⟩
  have e1 := ext_trans ex1 hb1
  obtain ⟨x0, x1, x2⟩ := (r1.ext hb1).three
  have rR1 := rR.ext hb1
  obtain ⟨r0, r1', r2⟩ := rR1.three
  have q0 := rR1.free 0
  have q1 := rR1.free 1
  have q2 := rR1.free 2
  have lR := rR1.lt
  by_cases hc0 : c = 0
  · have dc : (c != 0) = false := by simpa using hc0
    have HC0 := Lib.hid hc0
    clear hc0
    obtain ⟨hwf, _, _, hsz1, _⟩ := Wf.of_check (e := e) (vars := vars) (HC.out.symm.trans HC0.out)
    have hkn := known_of_wf hwf
    obtain ⟨hk0, hk15⟩ := hkn
    have q := idx_rows hk0 hk15
    have tk := (hT.ext e1).kind e.op hk0 hk15
    obtain ⟨kd, hkd⟩ : ∃ kd, kd = kindOf e.op := ⟨_, rfl⟩
    rw [← hkd] at tk
    have HKD := Lib.hid hkd
    clear hkd
    have k2 : e.op < 16 := by omega
    by_cases hk1 : kd = 1
    · have dk : (kd != 1) = false := by simpa using hk1
      have HK1 := Lib.hid hk1
      clear hk1
      have hop := Opp.neg hwf (HKD.out.symm.trans HK1.out)
      have hns := hop.size
      go_wp2_with fail
      refine (negC_all hwf (HKD.out.symm.trans HK1.out) _ w1 _ (hT.ext e1) (HE.ext e1)).mono ?_
      rintro _ w2 ⟨v2, rfl, hb2, hx2⟩
      obtain ⟨X, hX⟩ : ∃ X, X = negE e := ⟨_, rfl⟩
      rw [← hX] at hx2 hns
      have HX := Lib.hid hX
      clear hX
      obtain ⟨a2, c2, rfl, _⟩ := hx2.parts
      have e2 := ext_trans e1 hb2
      go_wp2_with fail
      refine (copyI_all X (by omega) _ w2 _ hx2).mono ?_
      rintro _ w3 ⟨v3, rfl, hb3, hx3⟩
      obtain ⟨a3, c3, rfl, _⟩ := hx3.parts
      have e3 := ext_trans e2 hb3
      have hs2 := hb2.size
      have CH2 := Lib.hid (fun W' (hW' : Below w3.heap.size w3 W') => check_calls (hT.ext (ext_trans e3 hW')) (hx3.ext hW') (by omega) vars)
      obtain ⟨d, hd⟩ : ∃ d, d = checkE X vars := ⟨_, rfl⟩
      rw [← hd] at CH2
      have HD := Lib.hid hd
      clear hd
      go_wp2_with fail
      have ew := ext_alloc w3 (.cells #[.int .i64 X.op, .int .i64 X.num, .slice a3 X.args.length c3] 24)
      have rX := row_new w3 [.int .i64 X.op, .int .i64 X.num, .slice a3 X.args.length c3] 24
      refine (CH2.out _ ew).mono ?_
      rintro _ w4 ⟨_, rfl, hb4, rfl⟩
      have e34 := ext_trans ew hb4
      have e4 := ext_trans e3 e34
      have rR2 := ((rR1.ext hb2).ext hb3).ext e34
      have rX4 := rX.ext hb4
      clear r0 r1' r2 q0 q1 q2
      obtain ⟨r0, r1', r2⟩ := rR2.three
      have q0 := rR2.free 0
      have q1 := rR2.free 1
      have q2 := rR2.free 2
      have lR2 := rR2.lt
      obtain ⟨y0, y1, y2⟩ := rX4.three
      by_cases hd0 : d = 0
      · have dd : (d != 0) = false := by simpa using hd0
        have HD0 := Lib.hid hd0
        clear hd0
        go_wp2
        refine bodyPost_ret (v := .tuple #[.agg #[.int .i64 X.op, .int .i64 X.num, .slice a3 X.args.length c3], .int .i64 0]) (by simp [results, Tryd.results20, go_sem, r0, r1', r2]) rfl ?_
        exact .mk (set3_below _ _ _ e4 (by omega)) (.mk' (x := X) (HR.out.trans (by unfold negR; rw [← HC.out, if_neg (by rw [HC0.out]; simp), ← HKD.out, if_neg (by rw [HK1.out]; simp), ← HX.out, ← HD.out, if_neg (by rw [HD0.out]; simp)])) ((set3_expr (base := w2.heap.size) _ _ _ (hx3.ext e34) (by omega)).mono fun b h => by omega))
      · have dd : (d != 0) = true := by simpa using hd0
        have HD0 := Lib.hid hd0
        clear hd0
        go_wp2
        refine bodyPost_ret (v := .tuple #[.agg #[.int .i64 0, .int .i64 0, .slice none 0 0], .int .i64 d]) (by simp [results, Tryd.results20, go_sem, r0, r1', r2]) rfl ?_
        exact .mk (set3_below _ _ _ e4 (by omega)) (.mk' (x := numE 0) (HR.out.trans (by unfold negR; rw [← HC.out, if_neg (by rw [HC0.out]; simp), ← HKD.out, if_neg (by rw [HK1.out]; simp), ← HX.out, ← HD.out, if_pos HD0.out])) (.nilargs _ _ (by unfold WF; omega) (by unfold WF; omega)))
    · have dk : (kd != 1) = true := by simpa using hk1
      have HK1 := Lib.hid hk1
      clear hk1
      go_wp2
      refine bodyPost_ret (v := .tuple #[.agg #[.int .i64 0, .int .i64 0, .slice none 0 0], .int .i64 9]) (by simp [results, Tryd.results20, go_sem, r0, r1', r2]) rfl ?_
      exact .mk (set3_below _ _ _ e1 (by omega)) (.mk' (x := numE 0) (HR.out.trans (by unfold negR; rw [← HC.out, if_neg (by rw [HC0.out]; simp), ← HKD.out, if_pos HK1.out])) (.nilargs _ _ (by unfold WF; omega) (by unfold WF; omega)))
  · have dc : (c != 0) = true := by simpa using hc0
    have HC0 := Lib.hid hc0
    clear hc0
    go_wp2
    refine bodyPost_ret (v := .tuple #[.agg #[.int .i64 0, .int .i64 0, .slice none 0 0], .int .i64 c]) (by simp [results, Tryd.results20, go_sem, r0, r1', r2]) rfl ?_
    exact .mk (set3_below _ _ _ e1 (by omega)) (.mk' (x := numE 0) (HR.out.trans (by unfold negR; rw [← HC.out, if_pos HC0.out])) (.nilargs _ _ (by unfold WF; omega) (by unfold WF; omega)))

end Go.Proofs.YthogcbffnbhalaaDoor

