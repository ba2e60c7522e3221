/- The chapter's examples. -/
import Derived.Test.YthogcbffnbhalaaDoorExHelp
import Derived.Deep.DeepCutAuto
namespace Go.Proofs.YthogcbffnbhalaaDoor
set_option linter.unusedVariables false
open Go.RowKit
attribute [local go_sem ↓] Go.wp_at_zero Go.wp_at_succ
theorem row_set3 {w : World} {g : Nat} {e : TypeId} {x0 x1 x2 : Value} (h : Row w g e [x0, x1, x2]) (u0 u1 u2 : Value) : Row (((w.setCell ⟨g, 0, none⟩ u0).setCell ⟨g, 1, none⟩ u1).setCell ⟨g, 2, none⟩ u2) g e [u0, u1, u2] := ((h.set 0 u0).set 1 u1).set 2 u2
instance (x : Int) : Decidable (WF x) := by unfold WF; infer_instance

theorem negV_calls {S : Nat → Prop} {w : World} {e x : Ex} {v : Value} {f : Int} (hT : Tab w) (h : ExprV S w e v) (hsz : sizeE e ≤ 1000) (vars : Int) (he : negR e vars = (x, f)) :
    Calls Tryd.prog 20 #[v, .int .i64 vars] w (Post w fun W' r => ∃ u, r = .tuple #[u, .int .i64 f] ∧ ExprV (fun b => w.heap.size ≤ b) W' x u) := by
  have h1 := negate_calls hT h hsz vars
  rw [he] at h1
  exact h1
theorem foldV_calls {S : Nat → Prop} {w : World} {e x : Ex} {v : Value} {f : Int} (hT : Tab w) (h : ExprV S w e v) (hsz : sizeE e ≤ 1000) (vars : Int) (he : foldR e vars = (x, f)) :
    Calls Tryd.prog 21 #[v, .int .i64 vars] w (Post w fun W' r => ∃ u, r = .tuple #[u, .int .i64 f] ∧ ExprV (fun b => w.heap.size ≤ b) W' x u) := by
  have h1 := fold_calls hT h hsz vars
  rw [he] at h1
  exact h1
theorem refSameV_calls {S S' : Nat → Prop} {w : World} {e1 e2 : Ex} {v1 v2 : Value} {b : Bool} (h : ExprV S w e1 v1) (h2 : ExprV S' w e2 v2) (he : sameE e1 e2 = b) : Calls Tryd.prog 22 #[v1, v2] w (Post w fun _ r => r = .bool b) := by
  have h1 := refSame_calls h h2 w (.refl _ _)
  rw [he] at h1
  exact h1
theorem sameV_calls {S S' : Nat → Prop} {w : World} {e1 e2 : Ex} {v1 v2 : Value} {b : Bool} (h : ExprV S w e1 v1) (h2 : ExprV S' w e2 v2) (he : sameE e1 e2 = b) : Calls Tryd.prog 23 #[v1, v2] w (Post w fun _ r => r = .bool b) := by
  have h1 := same_calls h h2 w (.refl _ _)
  rw [he] at h1
  exact h1
theorem evalV_calls {S S' : Nat → Prop} {w : World} {e : Ex} {v sv : Value} {s : Sc} {n f : Int} (hT : Tab w) (h : ExprV S w e v) (hs : ScV S' w s sv) (he : evalE s e = (n, f)) (hsz : sizeE e ≤ 1000) :
    Calls Tryd.prog 7 #[v, sv] w (Post w fun _ r => r = .tuple #[.int .i64 n, .int .i64 f]) := by
  have h1 := eval_calls hT h hs hsz
  rw [he] at h1
  exact h1
theorem truthV_calls {S S' : Nat → Prop} {w : World} {e : Ex} {v sv : Value} {s : Sc} {b : Bool} (hT : Tab w) (h : ExprV S w e v) (hs : ScV S' w s sv) (he : truthE s e = b) (hsz : sizeE e ≤ 1000) :
    Calls Tryd.prog 19 #[v, sv] w (Post w fun _ r => r = .bool b) := by
  have h1 := truthC_calls hT h hs hsz
  rw [he] at h1
  exact h1

set_option maxRecDepth 100000 in
set_option maxHeartbeats 40000000 in
theorem awake_calls {w : World} (hT : Tab w) : Calls Tryd.prog 6 #[] w (Post w fun _ r => r = .bool true) := by
  have HNUM := Lib.hid (fun (W : World) (n : Int) (wn : WF n) => (show ExprV (fun _ => False) W (numE n) (.agg #[.int .i64 0, .int .i64 n, .slice none 0 0]) from ExprV.nilargs _ W (by decide) wn))
  have HVAR := Lib.hid (fun (W : World) (n : Int) (wn : WF n) => (show ExprV (fun _ => False) W (varE n) (.agg #[.int .i64 1, .int .i64 n, .slice none 0 0]) from ExprV.nilargs _ W (by decide) wn))
  go_enter Tryd.func6, Tryd.ntmps6
  go_wp2_with fail
  refine (scene_calls w).mono ?_
  rintro _ wa ⟨_, rfl, hba, g1, g2, rfl, hsc⟩
  go_wp2_with fail
  refine (refNum_calls wa 1).mono ?_
  rintro _ wb ⟨_, rfl, hbb, rfl⟩
  have eb := ext_trans hba hbb
  go_upto_region 2 with fail
  obtain ⟨w0, hw0⟩ : ∃ w0, w0 = (wb.alloc (.cells #[.int .i64 3, .slice (some ⟨g1, 0, none⟩) 3 3, .slice (some ⟨g2, 0, none⟩) 3 3, .int .i64 3, .int .i64 7, .int .i64 4, .int .i64 0, .int .i64 0, .slice none 0 0] 28)).alloc (.cells #[.int .i64 0, .int .i64 1, .slice none 0 0] 24) := ⟨_, rfl⟩
  rw [← hw0]
  have e0 : Below w.heap.size w w0 := by rw [hw0]; exact ext_alloc' (ext_alloc' eb _) _
  obtain ⟨B1, hB1⟩ : ∃ B1, B1 = wb.heap.size := ⟨_, rfl⟩
  obtain ⟨B2, hB2⟩ : ∃ B2, B2 = wb.heap.size + 1 := ⟨_, rfl⟩
  have rS : Row w0 B1 28 [.int .i64 3, .slice (some ⟨g1, 0, none⟩) 3 3, .slice (some ⟨g2, 0, none⟩) 3 3, .int .i64 3, .int .i64 7, .int .i64 4, .int .i64 0, .int .i64 0, .slice none 0 0] := by rw [hw0, hB1]; exact (row_new wb [.int .i64 3, .slice (some ⟨g1, 0, none⟩) 3 3, .slice (some ⟨g2, 0, none⟩) 3 3, .int .i64 3, .int .i64 7, .int .i64 4, .int .i64 0, .int .i64 0, .slice none 0 0] 28).alloc _
  have rO : Row w0 B2 24 [.int .i64 0, .int .i64 1, .slice none 0 0] := by
    rw [hw0, hB2]
    have h := row_new (wb.alloc (.cells #[.int .i64 3, .slice (some ⟨g1, 0, none⟩) 3 3, .slice (some ⟨g2, 0, none⟩) 3 3, .int .i64 3, .int .i64 7, .int .i64 4, .int .i64 0, .int .i64 0, .slice none 0 0] 28)) [.int .i64 0, .int .i64 1, .slice none 0 0] 24
    rw [World.size_alloc] at h
    exact h
  have hsc0 : ScV (fun _ => True) w0 scA (.agg #[.int .i64 3, .slice (some ⟨g1, 0, none⟩) 3 3, .slice (some ⟨g2, 0, none⟩) 3 3, .int .i64 3, .int .i64 7, .int .i64 4, .int .i64 0, .int .i64 0, .slice none 0 0]) := by rw [hw0]; exact (hsc.ext hbb).ext (ext_alloc' (ext_alloc wb _) _)
  rw [← hB2, ← hB1]
  clear hw0 hB1 hB2 hsc hba hbb eb
  obtain ⟨one0, one1, one2⟩ := rO.three
  have TT := hT.ext e0
  have EE := e0
  have hsc := hsc0
  clear hsc0 e0 hT
  go_cut [3] (fun s3 wx => ∃ (G : Nat) (X : Ex) (a : Option Addr) (c : Nat), s3 = .pointer (some ⟨G, 0, none⟩) ∧ X = oneE 13 (twoE 11 (twoE 7 (oneE 3 (varE 0)) (numE 1)) (twoE 8 (oneE 3 (varE 0)) (numE 0))) ∧ Below w0.heap.size w0 wx ∧ Row wx G 24 [.int .i64 X.op, .int .i64 X.num, .slice a X.args.length c] ∧ ExprV (fun _ => True) wx X (.agg #[.int .i64 X.op, .int .i64 X.num, .slice a X.args.length c]))
  case first =>
    as_aux_lemma =>
    have hrefl := Below.refl w0.heap.size w0
    have KEEP : ∀ W', Below w0.heap.size w0 W' → (fun w' : World => w'.cell? ⟨B2, 0, none⟩ = some (.int .i64 0) ∧ w'.cell? ⟨B2, 1, none⟩ = some (.int .i64 1) ∧ w'.cell? ⟨B2, 2, none⟩ = some (.slice none 0 0) ∧ Below w0.heap.size w0 w') W' := fun W' hW' => ⟨cell_ext one0 hW', cell_ext one1 hW', cell_ext one2 hW', hW'⟩
    have KEEP := Lib.hid KEEP
    go_region_held3 (fun w' : World => w'.cell? ⟨B2, 0, none⟩ = some (.int .i64 0) ∧ w'.cell? ⟨B2, 1, none⟩ = some (.int .i64 1) ∧ w'.cell? ⟨B2, 2, none⟩ = some (.slice none 0 0) ∧ Below w0.heap.size w0 w')
      (first | (apply KEEP.out; first | assumption | (apply Below.drew; assumption) | (apply ext_alloc'; assumption) | (apply Below.drew; apply ext_alloc'; assumption) | (apply ext_alloc'; apply Below.drew; assumption) | (apply set3_below; assumption; assumption)))
      (first | (go_at_call 13; have _p := Ta8; refine (refOne_calls (hxa8.ext (by first | exact hca8 | exact ext_alloc' hca8 _ | exact hca8.drew)) 13 (by decide)).mono ?_; rintro _ wa9 ⟨va9, rfl, hba9, hxa9'⟩; have hxa9 := ExprV.bound hxa9'; clear hxa9'; obtain ⟨Xa9, hXa9⟩ : ∃ X, X = oneE 13 Xa8 := ⟨_, rfl⟩; rw [← hXa9] at hxa9; have HXa9 := Lib.hid hXa9; clear hXa9; obtain ⟨aa9, ca9, rfl, _⟩ := hxa9.parts; have hca9 := Below.refl wa9.heap.size wa9; have hza9 := hba9.size; (try simp only [World.size_alloc] at hza9); have hBa9 : Below w0.heap.size w0 wa9 := ext_trans (by first | exact hBa8 | exact ext_alloc' hBa8 _ | exact hBa8.drew | exact ext_alloc' hBa8.drew _) hba9; (first | (have hrow := Row.ext (row_new wa8 [.int .i64 0, .int .i64 0, .slice none 0 0] 24) hba9; have hge : w0.heap.size ≤ wa8.heap.size := hBa8.size) | (have hrow := Row.ext hrow hba9) | skip); (first | (obtain ⟨z0, z1, z2⟩ := hrow.three; have y0 := hrow.free 0; have y1 := hrow.free 1; have y2 := hrow.free 2; have yl := hrow.lt) | skip); have Ta9 : True := trivial) | (go_at_call 14; have _p := Ta7; refine (refTwoE2_calls (hxa3.ext (by first | exact hca3 | exact ext_alloc' hca3 _ | exact hca3.drew)) (hxa7.ext (by first | exact hca7 | exact ext_alloc' hca7 _ | exact hca7.drew)) 11 (by decide)).mono ?_; rintro _ wa8 ⟨va8, rfl, hba8, hxa8'⟩; have hxa8 := ExprV.bound hxa8'; clear hxa8'; obtain ⟨Xa8, hXa8⟩ : ∃ X, X = twoE 11 Xa3 Xa7 := ⟨_, rfl⟩; rw [← hXa8] at hxa8; have HXa8 := Lib.hid hXa8; clear hXa8; obtain ⟨aa8, ca8, rfl, _⟩ := hxa8.parts; have hca8 := Below.refl wa8.heap.size wa8; have hza8 := hba8.size; (try simp only [World.size_alloc] at hza8); have hBa8 : Below w0.heap.size w0 wa8 := ext_trans (by first | exact hBa7 | exact ext_alloc' hBa7 _ | exact hBa7.drew | exact ext_alloc' hBa7.drew _) hba8; (first | (have hrow := Row.ext (row_new wa7 [.int .i64 0, .int .i64 0, .slice none 0 0] 24) hba8; have hge : w0.heap.size ≤ wa7.heap.size := hBa7.size) | (have hrow := Row.ext hrow hba8) | skip); have Ta8 : True := trivial) | (go_at_call 14; have _p := Ta6; refine (refTwoE2_calls (hxa5.ext (by first | exact hca5 | exact ext_alloc' hca5 _ | exact hca5.drew)) (HNUM.out _ 0 (by decide)) 8 (by decide)).mono ?_; rintro _ wa7 ⟨va7, rfl, hba7, hxa7'⟩; have hxa7 := ExprV.bound hxa7'; clear hxa7'; obtain ⟨Xa7, hXa7⟩ : ∃ X, X = twoE 8 Xa5 (numE 0) := ⟨_, rfl⟩; rw [← hXa7] at hxa7; have HXa7 := Lib.hid hXa7; clear hXa7; obtain ⟨aa7, ca7, rfl, _⟩ := hxa7.parts; have hca7 := Below.refl wa7.heap.size wa7; have hza7 := hba7.size; (try simp only [World.size_alloc] at hza7); have hBa7 : Below w0.heap.size w0 wa7 := ext_trans (by first | exact hBa6 | exact ext_alloc' hBa6 _ | exact hBa6.drew | exact ext_alloc' hBa6.drew _) hba7; have hca3 := ext_trans (by first | exact hca3 | exact ext_alloc' hca3 _) hba7; (first | (have hrow := Row.ext (row_new wa6 [.int .i64 0, .int .i64 0, .slice none 0 0] 24) hba7; have hge : w0.heap.size ≤ wa6.heap.size := hBa6.size) | (have hrow := Row.ext hrow hba7) | skip); have Ta7 : True := trivial) | (go_at_call 12; have _p := Ta5; refine (refNum_calls _ 0).mono ?_; rintro _ wa6 ⟨_, rfl, hba6, rfl⟩; have hza6 := hba6.size; (try simp only [World.size_alloc] at hza6); have hBa6 : Below w0.heap.size w0 wa6 := ext_trans (by first | exact hBa5 | exact ext_alloc' hBa5 _ | exact hBa5.drew | exact ext_alloc' hBa5.drew _) hba6; have hca3 := ext_trans (by first | exact hca3 | exact ext_alloc' hca3 _) hba6; have hca5 := ext_trans (by first | exact hca5 | exact ext_alloc' hca5 _) hba6; (first | (have hrow := Row.ext (row_new wa5 [.int .i64 0, .int .i64 0, .slice none 0 0] 24) hba6; have hge : w0.heap.size ≤ wa5.heap.size := hBa5.size) | (have hrow := Row.ext hrow hba6) | skip); have Ta6 : True := trivial) | (go_at_call 16; have _p := Ta4; refine (out_calls (HVAR.out _ 0 (by decide))).mono ?_; rintro _ wa5 ⟨va5, rfl, hba5, hxa5'⟩; have hxa5 := ExprV.bound hxa5'; clear hxa5'; obtain ⟨Xa5, hXa5⟩ : ∃ X, X = oneE 3 (varE 0) := ⟨_, rfl⟩; rw [← hXa5] at hxa5; have HXa5 := Lib.hid hXa5; clear hXa5; obtain ⟨aa5, ca5, rfl, _⟩ := hxa5.parts; have hca5 := Below.refl wa5.heap.size wa5; have hza5 := hba5.size; (try simp only [World.size_alloc] at hza5); have hBa5 : Below w0.heap.size w0 wa5 := ext_trans (by first | exact hBa4 | exact ext_alloc' hBa4 _ | exact hBa4.drew | exact ext_alloc' hBa4.drew _) hba5; have hca3 := ext_trans (by first | exact hca3 | exact ext_alloc' hca3 _) hba5; (first | (have hrow := Row.ext (row_new wa4 [.int .i64 0, .int .i64 0, .slice none 0 0] 24) hba5; have hge : w0.heap.size ≤ wa4.heap.size := hBa4.size) | (have hrow := Row.ext hrow hba5) | skip); have Ta5 : True := trivial) | (go_at_call 17; have _p := Ta3; refine (v_calls _ 0).mono ?_; rintro _ wa4 ⟨_, rfl, hba4, rfl⟩; have hza4 := hba4.size; (try simp only [World.size_alloc] at hza4); have hBa4 : Below w0.heap.size w0 wa4 := ext_trans (by first | exact hBa3 | exact ext_alloc' hBa3 _ | exact hBa3.drew | exact ext_alloc' hBa3.drew _) hba4; have hca3 := ext_trans (by first | exact hca3 | exact ext_alloc' hca3 _) hba4; (first | (have hrow := Row.ext (row_new wa3 [.int .i64 0, .int .i64 0, .slice none 0 0] 24) hba4; have hge : w0.heap.size ≤ wa3.heap.size := hBa3.size) | (have hrow := Row.ext hrow hba4) | skip); have Ta4 : True := trivial) | (go_at_call 15; have _p := Ta2; refine (isL_calls (hxa2.ext (by first | exact hca2 | exact ext_alloc' hca2 _ | exact hca2.drew)) (HNUM.out _ 1 (by decide))).mono ?_; rintro _ wa3 ⟨va3, rfl, hba3, hxa3'⟩; have hxa3 := ExprV.bound hxa3'; clear hxa3'; obtain ⟨Xa3, hXa3⟩ : ∃ X, X = twoE 7 Xa2 (numE 1) := ⟨_, rfl⟩; rw [← hXa3] at hxa3; have HXa3 := Lib.hid hXa3; clear hXa3; obtain ⟨aa3, ca3, rfl, _⟩ := hxa3.parts; have hca3 := Below.refl wa3.heap.size wa3; have hza3 := hba3.size; (try simp only [World.size_alloc] at hza3); have hBa3 : Below w0.heap.size w0 wa3 := ext_trans (by first | exact hBa2 | exact ext_alloc' hBa2 _ | exact hBa2.drew | exact ext_alloc' hBa2.drew _) hba3; (first | (have hrow := Row.ext (row_new wa2 [.int .i64 0, .int .i64 0, .slice none 0 0] 24) hba3; have hge : w0.heap.size ≤ wa2.heap.size := hBa2.size) | (have hrow := Row.ext hrow hba3) | skip); have Ta3 : True := trivial) | (go_at_call 16; have _p := Ta1; refine (out_calls (HVAR.out _ 0 (by decide))).mono ?_; rintro _ wa2 ⟨va2, rfl, hba2, hxa2'⟩; have hxa2 := ExprV.bound hxa2'; clear hxa2'; obtain ⟨Xa2, hXa2⟩ : ∃ X, X = oneE 3 (varE 0) := ⟨_, rfl⟩; rw [← hXa2] at hxa2; have HXa2 := Lib.hid hXa2; clear hXa2; obtain ⟨aa2, ca2, rfl, _⟩ := hxa2.parts; have hca2 := Below.refl wa2.heap.size wa2; have hza2 := hba2.size; (try simp only [World.size_alloc] at hza2); have hBa2 : Below w0.heap.size w0 wa2 := ext_trans (by first | exact hBa1 | exact ext_alloc' hBa1 _ | exact hBa1.drew | exact ext_alloc' hBa1.drew _) hba2; (first | (have hrow := Row.ext (row_new wa1 [.int .i64 0, .int .i64 0, .slice none 0 0] 24) hba2; have hge : w0.heap.size ≤ wa1.heap.size := hBa1.size) | (have hrow := Row.ext hrow hba2) | skip); have Ta2 : True := trivial) | (go_at_call 17; refine (v_calls _ 0).mono ?_; rintro _ wa1 ⟨_, rfl, hba1, rfl⟩; have hza1 := hba1.size; (try simp only [World.size_alloc, World.size_drew] at hza1); have hBa1 : Below w0.heap.size w0 wa1 := ext_trans (by first | exact hrefl | exact ext_alloc' hrefl _ | exact hrefl.drew | exact ext_alloc' hrefl.drew _) hba1; (first | (have hrow := Row.ext (w := (w0.alloc (.cells #[.int .i64 0, .int .i64 0, .slice none 0 0] 24)).drew) (row_new w0 [.int .i64 0, .int .i64 0, .slice none 0 0] 24) hba1; have hge : w0.heap.size ≤ w0.heap.size := hrefl.size) | (have hrow := Row.ext (row_new w0 [.int .i64 0, .int .i64 0, .slice none 0 0] 24) hba1; have hge : w0.heap.size ≤ w0.heap.size := hrefl.size) | (have hrow := Row.ext hrow hba1) | skip); have Ta1 : True := trivial))
    all_goals
      go_wp2_with fail
      go_meet
      first
        | exact ⟨_, Xa9, _, _, rfl, (by rw [HXa9.out, HXa8.out, HXa7.out, HXa5.out, HXa3.out, HXa2.out]), ext_alloc' hBa9 _, row_new wa9 _ _, (hxa9.ext (ext_alloc _ _)).all⟩
        | exact ⟨_, Xa9, _, _, rfl, (by rw [HXa9.out, HXa8.out, HXa7.out, HXa5.out, HXa3.out, HXa2.out]), set3_below _ _ _ hBa9 hge, row_set3 hrow _ _ _, (set3_exprT (S' := fun _ => True) _ _ _ hxa9 (by intro hc; (try simp only [World.size_alloc, false_or] at hc); omega) fun _ _ => trivial)⟩
  case rest =>
    as_aux_lemma =>
    obtain ⟨G3, X3, a3, c3, rfl, hX3, hb1, r3, hx3⟩ := hcut
    obtain ⟨w1, rfl⟩ : ∃ w1 : World, w1 = wc := ⟨_, rfl⟩
    have HX3 := Lib.hid hX3
    clear hX3 one0 one1 one2
    have rS := rS.ext hb1
    have rO := rO.ext hb1
    have hsc := hsc.ext hb1
    have TT := TT.ext hb1
    have EE := ext_trans EE hb1
    obtain ⟨one0, one1, one2⟩ := rO.three
    go_upto_region 3 with fail
    go_cut [4] (fun s4 wx => ∃ (G : Nat) (X : Ex) (a : Option Addr) (c : Nat), s4 = .pointer (some ⟨G, 0, none⟩) ∧ X = oneE 13 (oneE 14 (twoE 10 (twoE 4 (varE 0) (varE 1)) (twoE 7 (oneE 2 (varE 1)) (numE 1)))) ∧ Below w1.heap.size w1 wx ∧ Row wx G 24 [.int .i64 X.op, .int .i64 X.num, .slice a X.args.length c] ∧ ExprV (fun _ => True) wx X (.agg #[.int .i64 X.op, .int .i64 X.num, .slice a X.args.length c]))
    case first =>
      as_aux_lemma =>
      have hrefl := Below.refl w1.heap.size w1
      have KEEP : ∀ W', Below w1.heap.size w1 W' → (fun w' : World => w'.cell? ⟨B2, 0, none⟩ = some (.int .i64 0) ∧ w'.cell? ⟨B2, 1, none⟩ = some (.int .i64 1) ∧ w'.cell? ⟨B2, 2, none⟩ = some (.slice none 0 0) ∧ Below w1.heap.size w1 w') W' := fun W' hW' => ⟨cell_ext one0 hW', cell_ext one1 hW', cell_ext one2 hW', hW'⟩
      have KEEP := Lib.hid KEEP
      go_region_held3 (fun w' : World => w'.cell? ⟨B2, 0, none⟩ = some (.int .i64 0) ∧ w'.cell? ⟨B2, 1, none⟩ = some (.int .i64 1) ∧ w'.cell? ⟨B2, 2, none⟩ = some (.slice none 0 0) ∧ Below w1.heap.size w1 w')
        (first | (apply KEEP.out; first | assumption | (apply Below.drew; assumption) | (apply ext_alloc'; assumption) | (apply Below.drew; apply ext_alloc'; assumption) | (apply ext_alloc'; apply Below.drew; assumption) | (apply set3_below; assumption; assumption)))
        (first | (go_at_call 13; have _p := Tb8; refine (refOne_calls (hxb8.ext (by first | exact hcb8 | exact ext_alloc' hcb8 _ | exact hcb8.drew)) 13 (by decide)).mono ?_; rintro _ wb9 ⟨vb9, rfl, hbb9, hxb9'⟩; have hxb9 := ExprV.bound hxb9'; clear hxb9'; obtain ⟨Xb9, hXb9⟩ : ∃ X, X = oneE 13 Xb8 := ⟨_, rfl⟩; rw [← hXb9] at hxb9; have HXb9 := Lib.hid hXb9; clear hXb9; obtain ⟨ab9, cb9, rfl, _⟩ := hxb9.parts; have hcb9 := Below.refl wb9.heap.size wb9; have hzb9 := hbb9.size; (try simp only [World.size_alloc] at hzb9); have hBb9 : Below w1.heap.size w1 wb9 := ext_trans (by first | exact hBb8 | exact ext_alloc' hBb8 _ | exact hBb8.drew | exact ext_alloc' hBb8.drew _) hbb9; (first | (have hrow := Row.ext (row_new wb8 [.int .i64 0, .int .i64 0, .slice none 0 0] 24) hbb9; have hge : w1.heap.size ≤ wb8.heap.size := hBb8.size) | (have hrow := Row.ext hrow hbb9) | skip); (first | (obtain ⟨z0, z1, z2⟩ := hrow.three; have y0 := hrow.free 0; have y1 := hrow.free 1; have y2 := hrow.free 2; have yl := hrow.lt) | skip); have Tb9 : True := trivial) | (go_at_call 13; have _p := Tb7; refine (refOne_calls (hxb7.ext (by first | exact hcb7 | exact ext_alloc' hcb7 _ | exact hcb7.drew)) 14 (by decide)).mono ?_; rintro _ wb8 ⟨vb8, rfl, hbb8, hxb8'⟩; have hxb8 := ExprV.bound hxb8'; clear hxb8'; obtain ⟨Xb8, hXb8⟩ : ∃ X, X = oneE 14 Xb7 := ⟨_, rfl⟩; rw [← hXb8] at hxb8; have HXb8 := Lib.hid hXb8; clear hXb8; obtain ⟨ab8, cb8, rfl, _⟩ := hxb8.parts; have hcb8 := Below.refl wb8.heap.size wb8; have hzb8 := hbb8.size; (try simp only [World.size_alloc] at hzb8); have hBb8 : Below w1.heap.size w1 wb8 := ext_trans (by first | exact hBb7 | exact ext_alloc' hBb7 _ | exact hBb7.drew | exact ext_alloc' hBb7.drew _) hbb8; (first | (have hrow := Row.ext (row_new wb7 [.int .i64 0, .int .i64 0, .slice none 0 0] 24) hbb8; have hge : w1.heap.size ≤ wb7.heap.size := hBb7.size) | (have hrow := Row.ext hrow hbb8) | skip); have Tb8 : True := trivial) | (go_at_call 14; have _p := Tb6; refine (refTwoE2_calls (hxb3.ext (by first | exact hcb3 | exact ext_alloc' hcb3 _ | exact hcb3.drew)) (hxb6.ext (by first | exact hcb6 | exact ext_alloc' hcb6 _ | exact hcb6.drew)) 10 (by decide)).mono ?_; rintro _ wb7 ⟨vb7, rfl, hbb7, hxb7'⟩; have hxb7 := ExprV.bound hxb7'; clear hxb7'; obtain ⟨Xb7, hXb7⟩ : ∃ X, X = twoE 10 Xb3 Xb6 := ⟨_, rfl⟩; rw [← hXb7] at hxb7; have HXb7 := Lib.hid hXb7; clear hXb7; obtain ⟨ab7, cb7, rfl, _⟩ := hxb7.parts; have hcb7 := Below.refl wb7.heap.size wb7; have hzb7 := hbb7.size; (try simp only [World.size_alloc] at hzb7); have hBb7 : Below w1.heap.size w1 wb7 := ext_trans (by first | exact hBb6 | exact ext_alloc' hBb6 _ | exact hBb6.drew | exact ext_alloc' hBb6.drew _) hbb7; (first | (have hrow := Row.ext (row_new wb6 [.int .i64 0, .int .i64 0, .slice none 0 0] 24) hbb7; have hge : w1.heap.size ≤ wb6.heap.size := hBb6.size) | (have hrow := Row.ext hrow hbb7) | skip); have Tb7 : True := trivial) | (go_at_call 15; have _p := Tb5; refine (isL_calls (hxb5.ext (by first | exact hcb5 | exact ext_alloc' hcb5 _ | exact hcb5.drew)) (HNUM.out _ 1 (by decide))).mono ?_; rintro _ wb6 ⟨vb6, rfl, hbb6, hxb6'⟩; have hxb6 := ExprV.bound hxb6'; clear hxb6'; obtain ⟨Xb6, hXb6⟩ : ∃ X, X = twoE 7 Xb5 (numE 1) := ⟨_, rfl⟩; rw [← hXb6] at hxb6; have HXb6 := Lib.hid hXb6; clear hXb6; obtain ⟨ab6, cb6, rfl, _⟩ := hxb6.parts; have hcb6 := Below.refl wb6.heap.size wb6; have hzb6 := hbb6.size; (try simp only [World.size_alloc] at hzb6); have hBb6 : Below w1.heap.size w1 wb6 := ext_trans (by first | exact hBb5 | exact ext_alloc' hBb5 _ | exact hBb5.drew | exact ext_alloc' hBb5.drew _) hbb6; have hcb3 := ext_trans (by first | exact hcb3 | exact ext_alloc' hcb3 _) hbb6; (first | (have hrow := Row.ext (row_new wb5 [.int .i64 0, .int .i64 0, .slice none 0 0] 24) hbb6; have hge : w1.heap.size ≤ wb5.heap.size := hBb5.size) | (have hrow := Row.ext hrow hbb6) | skip); have Tb6 : True := trivial) | (go_at_call 18; have _p := Tb4; refine (in_calls (HVAR.out _ 1 (by decide))).mono ?_; rintro _ wb5 ⟨vb5, rfl, hbb5, hxb5'⟩; have hxb5 := ExprV.bound hxb5'; clear hxb5'; obtain ⟨Xb5, hXb5⟩ : ∃ X, X = oneE 2 (varE 1) := ⟨_, rfl⟩; rw [← hXb5] at hxb5; have HXb5 := Lib.hid hXb5; clear hXb5; obtain ⟨ab5, cb5, rfl, _⟩ := hxb5.parts; have hcb5 := Below.refl wb5.heap.size wb5; have hzb5 := hbb5.size; (try simp only [World.size_alloc] at hzb5); have hBb5 : Below w1.heap.size w1 wb5 := ext_trans (by first | exact hBb4 | exact ext_alloc' hBb4 _ | exact hBb4.drew | exact ext_alloc' hBb4.drew _) hbb5; have hcb3 := ext_trans (by first | exact hcb3 | exact ext_alloc' hcb3 _) hbb5; (first | (have hrow := Row.ext (row_new wb4 [.int .i64 0, .int .i64 0, .slice none 0 0] 24) hbb5; have hge : w1.heap.size ≤ wb4.heap.size := hBb4.size) | (have hrow := Row.ext hrow hbb5) | skip); have Tb5 : True := trivial) | (go_at_call 17; have _p := Tb3; refine (v_calls _ 1).mono ?_; rintro _ wb4 ⟨_, rfl, hbb4, rfl⟩; have hzb4 := hbb4.size; (try simp only [World.size_alloc] at hzb4); have hBb4 : Below w1.heap.size w1 wb4 := ext_trans (by first | exact hBb3 | exact ext_alloc' hBb3 _ | exact hBb3.drew | exact ext_alloc' hBb3.drew _) hbb4; have hcb3 := ext_trans (by first | exact hcb3 | exact ext_alloc' hcb3 _) hbb4; (first | (have hrow := Row.ext (row_new wb3 [.int .i64 0, .int .i64 0, .slice none 0 0] 24) hbb4; have hge : w1.heap.size ≤ wb3.heap.size := hBb3.size) | (have hrow := Row.ext hrow hbb4) | skip); have Tb4 : True := trivial) | (go_at_call 14; have _p := Tb2; refine (refTwoE2_calls (HVAR.out _ 0 (by decide)) (HVAR.out _ 1 (by decide)) 4 (by decide)).mono ?_; rintro _ wb3 ⟨vb3, rfl, hbb3, hxb3'⟩; have hxb3 := ExprV.bound hxb3'; clear hxb3'; obtain ⟨Xb3, hXb3⟩ : ∃ X, X = twoE 4 (varE 0) (varE 1) := ⟨_, rfl⟩; rw [← hXb3] at hxb3; have HXb3 := Lib.hid hXb3; clear hXb3; obtain ⟨ab3, cb3, rfl, _⟩ := hxb3.parts; have hcb3 := Below.refl wb3.heap.size wb3; have hzb3 := hbb3.size; (try simp only [World.size_alloc] at hzb3); have hBb3 : Below w1.heap.size w1 wb3 := ext_trans (by first | exact hBb2 | exact ext_alloc' hBb2 _ | exact hBb2.drew | exact ext_alloc' hBb2.drew _) hbb3; (first | (have hrow := Row.ext (row_new wb2 [.int .i64 0, .int .i64 0, .slice none 0 0] 24) hbb3; have hge : w1.heap.size ≤ wb2.heap.size := hBb2.size) | (have hrow := Row.ext hrow hbb3) | skip); have Tb3 : True := trivial) | (go_at_call 17; have _p := Tb1; refine (v_calls _ 1).mono ?_; rintro _ wb2 ⟨_, rfl, hbb2, rfl⟩; have hzb2 := hbb2.size; (try simp only [World.size_alloc] at hzb2); have hBb2 : Below w1.heap.size w1 wb2 := ext_trans (by first | exact hBb1 | exact ext_alloc' hBb1 _ | exact hBb1.drew | exact ext_alloc' hBb1.drew _) hbb2; (first | (have hrow := Row.ext (row_new wb1 [.int .i64 0, .int .i64 0, .slice none 0 0] 24) hbb2; have hge : w1.heap.size ≤ wb1.heap.size := hBb1.size) | (have hrow := Row.ext hrow hbb2) | skip); have Tb2 : True := trivial) | (go_at_call 17; refine (v_calls _ 0).mono ?_; rintro _ wb1 ⟨_, rfl, hbb1, rfl⟩; have hzb1 := hbb1.size; (try simp only [World.size_alloc, World.size_drew] at hzb1); have hBb1 : Below w1.heap.size w1 wb1 := ext_trans (by first | exact hrefl | exact ext_alloc' hrefl _ | exact hrefl.drew | exact ext_alloc' hrefl.drew _) hbb1; (first | (have hrow := Row.ext (w := (w1.alloc (.cells #[.int .i64 0, .int .i64 0, .slice none 0 0] 24)).drew) (row_new w1 [.int .i64 0, .int .i64 0, .slice none 0 0] 24) hbb1; have hge : w1.heap.size ≤ w1.heap.size := hrefl.size) | (have hrow := Row.ext (row_new w1 [.int .i64 0, .int .i64 0, .slice none 0 0] 24) hbb1; have hge : w1.heap.size ≤ w1.heap.size := hrefl.size) | (have hrow := Row.ext hrow hbb1) | skip); have Tb1 : True := trivial))
      all_goals
        go_wp2_with fail
        go_meet
        first
          | exact ⟨_, Xb9, _, _, rfl, (by rw [HXb9.out, HXb8.out, HXb7.out, HXb6.out, HXb5.out, HXb3.out]), ext_alloc' hBb9 _, row_new wb9 _ _, (hxb9.ext (ext_alloc _ _)).all⟩
          | exact ⟨_, Xb9, _, _, rfl, (by rw [HXb9.out, HXb8.out, HXb7.out, HXb6.out, HXb5.out, HXb3.out]), set3_below _ _ _ hBb9 hge, row_set3 hrow _ _ _, (set3_exprT (S' := fun _ => True) _ _ _ hxb9 (by intro hc; (try simp only [World.size_alloc, false_or] at hc); omega) fun _ _ => trivial)⟩
    case rest =>
      as_aux_lemma =>
      obtain ⟨G4, X4, a4, c4, rfl, hX4, hb2, r4, hx4⟩ := hcut
      obtain ⟨w2, rfl⟩ : ∃ w2 : World, w2 = wc := ⟨_, rfl⟩
      have HX4 := Lib.hid hX4
      clear hX4 one0 one1 one2
      have rS := rS.ext hb2
      have rO := rO.ext hb2
      have r3 := r3.ext hb2
      have hx3 := hx3.ext hb2
      have hsc := hsc.ext hb2
      have TT := TT.ext hb2
      have EE := ext_trans EE hb2
      obtain ⟨one0, one1, one2⟩ := rO.three
      obtain ⟨s0, s1, s2, s3, s4, s5, s6, s7, s8⟩ := rS.nine
      go_upto_region 4 with fail
      have hrefl := Below.refl w2.heap.size w2
      have KEEP : ∀ W', Below w2.heap.size w2 W' → (fun w' : World => w'.cell? ⟨B2, 0, none⟩ = some (.int .i64 0) ∧ w'.cell? ⟨B2, 1, none⟩ = some (.int .i64 1) ∧ w'.cell? ⟨B2, 2, none⟩ = some (.slice none 0 0) ∧ w'.cell? ⟨B1, 0, none⟩ = some (.int .i64 3) ∧ w'.cell? ⟨B1, 1, none⟩ = some (.slice (some ⟨g1, 0, none⟩) 3 3) ∧ w'.cell? ⟨B1, 2, none⟩ = some (.slice (some ⟨g2, 0, none⟩) 3 3) ∧ w'.cell? ⟨B1, 3, none⟩ = some (.int .i64 3) ∧ w'.cell? ⟨B1, 4, none⟩ = some (.int .i64 7) ∧ w'.cell? ⟨B1, 5, none⟩ = some (.int .i64 4) ∧ w'.cell? ⟨B1, 6, none⟩ = some (.int .i64 0) ∧ w'.cell? ⟨B1, 7, none⟩ = some (.int .i64 0) ∧ w'.cell? ⟨B1, 8, none⟩ = some (.slice none 0 0) ∧ Below w2.heap.size w2 w') W' := fun W' hW' => ⟨cell_ext one0 hW', cell_ext one1 hW', cell_ext one2 hW', cell_ext s0 hW', cell_ext s1 hW', cell_ext s2 hW', cell_ext s3 hW', cell_ext s4 hW', cell_ext s5 hW', cell_ext s6 hW', cell_ext s7 hW', cell_ext s8 hW', hW'⟩
      have KEEP := Lib.hid KEEP
      go_region_held3 (fun w' : World => w'.cell? ⟨B2, 0, none⟩ = some (.int .i64 0) ∧ w'.cell? ⟨B2, 1, none⟩ = some (.int .i64 1) ∧ w'.cell? ⟨B2, 2, none⟩ = some (.slice none 0 0) ∧ w'.cell? ⟨B1, 0, none⟩ = some (.int .i64 3) ∧ w'.cell? ⟨B1, 1, none⟩ = some (.slice (some ⟨g1, 0, none⟩) 3 3) ∧ w'.cell? ⟨B1, 2, none⟩ = some (.slice (some ⟨g2, 0, none⟩) 3 3) ∧ w'.cell? ⟨B1, 3, none⟩ = some (.int .i64 3) ∧ w'.cell? ⟨B1, 4, none⟩ = some (.int .i64 7) ∧ w'.cell? ⟨B1, 5, none⟩ = some (.int .i64 4) ∧ w'.cell? ⟨B1, 6, none⟩ = some (.int .i64 0) ∧ w'.cell? ⟨B1, 7, none⟩ = some (.int .i64 0) ∧ w'.cell? ⟨B1, 8, none⟩ = some (.slice none 0 0) ∧ Below w2.heap.size w2 w')
        (first | (apply KEEP.out; first | assumption | (apply Below.drew; assumption) | (apply ext_alloc'; assumption) | (apply Below.drew; apply ext_alloc'; assumption) | (apply ext_alloc'; apply Below.drew; assumption) | (apply set3_below; assumption; assumption)))
        (first | (go_at_call 7; have _p := Tc4; refine (evalV_calls (TT.ext (by first | exact hBc4 | exact hBc4.drew)) (hxc4.ext (by first | exact hcc4 | exact ext_alloc' hcc4 _ | exact hcc4.drew)) (hsc.ext (by first | exact hBc4 | exact hBc4.drew)) (n := 2) (f := 0) (by rw [HXc4.out, HXc3.out, HXc2.out]; decide) (by rw [HXc4.out, HXc3.out, HXc2.out]; decide)).mono ?_; rintro _ wc5 ⟨_, rfl, hbc5, rfl⟩; have hBc5 : Below w2.heap.size w2 wc5 := ext_trans (by first | exact hBc4 | exact hBc4.drew) hbc5) | (go_at_call 13; have _p := Tc3; refine (refOne_calls (hxc3.ext (by first | exact hcc3 | exact ext_alloc' hcc3 _ | exact hcc3.drew)) 15 (by decide)).mono ?_; rintro _ wc4 ⟨vc4, rfl, hbc4, hxc4'⟩; have hxc4 := ExprV.bound hxc4'; clear hxc4'; obtain ⟨Xc4, hXc4⟩ : ∃ X, X = oneE 15 Xc3 := ⟨_, rfl⟩; rw [← hXc4] at hxc4; have HXc4 := Lib.hid hXc4; clear hXc4; obtain ⟨ac4, cc4, rfl, _⟩ := hxc4.parts; have hcc4 := Below.refl wc4.heap.size wc4; have hzc4 := hbc4.size; (try simp only [World.size_alloc, World.size_drew] at hzc4); have hBc4 : Below w2.heap.size w2 wc4 := ext_trans (by first | exact hBc3 | exact ext_alloc' hBc3 _ | exact hBc3.drew | exact ext_alloc' hBc3.drew _) hbc4; have Tc4 : True := trivial) | (go_at_call 15; have _p := Tc2; refine (isL_calls (hxc2.ext (by first | exact hcc2 | exact ext_alloc' hcc2 _ | exact hcc2.drew)) (HNUM.out _ 1 (by decide))).mono ?_; rintro _ wc3 ⟨vc3, rfl, hbc3, hxc3'⟩; have hxc3 := ExprV.bound hxc3'; clear hxc3'; obtain ⟨Xc3, hXc3⟩ : ∃ X, X = twoE 7 Xc2 (numE 1) := ⟨_, rfl⟩; rw [← hXc3] at hxc3; have HXc3 := Lib.hid hXc3; clear hXc3; obtain ⟨ac3, cc3, rfl, _⟩ := hxc3.parts; have hcc3 := Below.refl wc3.heap.size wc3; have hzc3 := hbc3.size; (try simp only [World.size_alloc, World.size_drew] at hzc3); have hBc3 : Below w2.heap.size w2 wc3 := ext_trans (by first | exact hBc2 | exact ext_alloc' hBc2 _ | exact hBc2.drew | exact ext_alloc' hBc2.drew _) hbc3; have Tc3 : True := trivial) | (go_at_call 18; have _p := Tc1; refine (in_calls (HVAR.out _ 0 (by decide))).mono ?_; rintro _ wc2 ⟨vc2, rfl, hbc2, hxc2'⟩; have hxc2 := ExprV.bound hxc2'; clear hxc2'; obtain ⟨Xc2, hXc2⟩ : ∃ X, X = oneE 2 (varE 0) := ⟨_, rfl⟩; rw [← hXc2] at hxc2; have HXc2 := Lib.hid hXc2; clear hXc2; obtain ⟨ac2, cc2, rfl, _⟩ := hxc2.parts; have hcc2 := Below.refl wc2.heap.size wc2; have hzc2 := hbc2.size; (try simp only [World.size_alloc, World.size_drew] at hzc2); have hBc2 : Below w2.heap.size w2 wc2 := ext_trans (by first | exact hBc1 | exact ext_alloc' hBc1 _ | exact hBc1.drew | exact ext_alloc' hBc1.drew _) hbc2; have Tc2 : True := trivial) | (go_at_call 17; refine (v_calls _ 0).mono ?_; rintro _ wc1 ⟨_, rfl, hbc1, rfl⟩; have hzc1 := hbc1.size; (try simp only [World.size_drew] at hzc1); have hBc1 : Below w2.heap.size w2 wc1 := ext_trans (by first | exact hrefl | exact ext_alloc' hrefl _ | exact hrefl.drew | exact ext_alloc' hrefl.drew _) hbc1; have Tc1 : True := trivial))
      obtain ⟨w3, rfl⟩ : ∃ w3 : World, w3 = wc5 := ⟨_, rfl⟩
      clear KEEP hrefl one0 one1 one2 s0 s1 s2 s3 s4 s5 s6 s7 s8
      have rS := rS.ext hBc5
      have rO := rO.ext hBc5
      have r3 := r3.ext hBc5
      have hx3 := hx3.ext hBc5
      have r4 := r4.ext hBc5
      have hx4 := hx4.ext hBc5
      have hsc := hsc.ext hBc5
      have TT := TT.ext hBc5
      have EE := ext_trans EE hBc5
      obtain ⟨one0, one1, one2⟩ := rO.three
      obtain ⟨s0, s1, s2, s3, s4, s5, s6, s7, s8⟩ := rS.nine
      obtain ⟨t30, t31, t32⟩ := r3.three
      obtain ⟨t40, t41, t42⟩ := r4.three
      have TR3 := Lib.hid (fun W (hW : Below w3.heap.size w3 W) => truthV_calls (b := true) (TT.ext hW) (hx3.ext hW) (hsc.ext hW) (by rw [HX3.out]; decide) (by rw [HX3.out]; decide))
      have TR4 := Lib.hid (fun W (hW : Below w3.heap.size w3 W) => truthV_calls (b := true) (TT.ext hW) (hx4.ext hW) (hsc.ext hW) (by rw [HX4.out]; decide) (by rw [HX4.out]; decide))
      go_wp2_with fail
      refine (TR3.out _ (.refl _ _)).mono ?_
      rintro _ w4 ⟨_, rfl, hb4, rfl⟩
      clear one0 one1 one2 s0 s1 s2 s3 s4 s5 s6 s7 s8 t30 t31 t32 t40 t41 t42
      obtain ⟨s0, s1, s2, s3, s4, s5, s6, s7, s8⟩ := (rS.ext hb4).nine
      obtain ⟨t40, t41, t42⟩ := (r4.ext hb4).three
      go_wp2_with fail
      refine (TR4.out _ hb4).mono ?_
      rintro _ w5 ⟨_, rfl, hb5, rfl⟩
      have hb45 := ext_trans hb4 hb5
      clear s0 s1 s2 s3 s4 s5 s6 s7 s8 t40 t41 t42
      have rS := rS.ext hb45
      have rO := rO.ext hb45
      have hsc := hsc.ext hb45
      have TT := TT.ext hb45
      have EE := ext_trans EE hb45
      clear r3 r4 hx3 hx4 TR3 TR4
      obtain ⟨one0, one1, one2⟩ := rO.three
      obtain ⟨s0, s1, s2, s3, s4, s5, s6, s7, s8⟩ := rS.nine
      go_upto_region 7 with fail
      have hrefl := Below.refl w5.heap.size w5
      have KEEP : ∀ W', Below w5.heap.size w5 W' → (fun w' : World => w'.cell? ⟨B2, 0, none⟩ = some (.int .i64 0) ∧ w'.cell? ⟨B2, 1, none⟩ = some (.int .i64 1) ∧ w'.cell? ⟨B2, 2, none⟩ = some (.slice none 0 0) ∧ w'.cell? ⟨B1, 0, none⟩ = some (.int .i64 3) ∧ w'.cell? ⟨B1, 1, none⟩ = some (.slice (some ⟨g1, 0, none⟩) 3 3) ∧ w'.cell? ⟨B1, 2, none⟩ = some (.slice (some ⟨g2, 0, none⟩) 3 3) ∧ w'.cell? ⟨B1, 3, none⟩ = some (.int .i64 3) ∧ w'.cell? ⟨B1, 4, none⟩ = some (.int .i64 7) ∧ w'.cell? ⟨B1, 5, none⟩ = some (.int .i64 4) ∧ w'.cell? ⟨B1, 6, none⟩ = some (.int .i64 0) ∧ w'.cell? ⟨B1, 7, none⟩ = some (.int .i64 0) ∧ w'.cell? ⟨B1, 8, none⟩ = some (.slice none 0 0) ∧ Below w5.heap.size w5 w') W' := fun W' hW' => ⟨cell_ext one0 hW', cell_ext one1 hW', cell_ext one2 hW', cell_ext s0 hW', cell_ext s1 hW', cell_ext s2 hW', cell_ext s3 hW', cell_ext s4 hW', cell_ext s5 hW', cell_ext s6 hW', cell_ext s7 hW', cell_ext s8 hW', hW'⟩
      have KEEP := Lib.hid KEEP
      go_region_held3 (fun w' : World => w'.cell? ⟨B2, 0, none⟩ = some (.int .i64 0) ∧ w'.cell? ⟨B2, 1, none⟩ = some (.int .i64 1) ∧ w'.cell? ⟨B2, 2, none⟩ = some (.slice none 0 0) ∧ w'.cell? ⟨B1, 0, none⟩ = some (.int .i64 3) ∧ w'.cell? ⟨B1, 1, none⟩ = some (.slice (some ⟨g1, 0, none⟩) 3 3) ∧ w'.cell? ⟨B1, 2, none⟩ = some (.slice (some ⟨g2, 0, none⟩) 3 3) ∧ w'.cell? ⟨B1, 3, none⟩ = some (.int .i64 3) ∧ w'.cell? ⟨B1, 4, none⟩ = some (.int .i64 7) ∧ w'.cell? ⟨B1, 5, none⟩ = some (.int .i64 4) ∧ w'.cell? ⟨B1, 6, none⟩ = some (.int .i64 0) ∧ w'.cell? ⟨B1, 7, none⟩ = some (.int .i64 0) ∧ w'.cell? ⟨B1, 8, none⟩ = some (.slice none 0 0) ∧ Below w5.heap.size w5 w')
        (first | (apply KEEP.out; first | assumption | (apply Below.drew; assumption) | (apply ext_alloc'; assumption) | (apply Below.drew; apply ext_alloc'; assumption) | (apply ext_alloc'; apply Below.drew; assumption) | (apply set3_below; assumption; assumption)))
        (first | (go_at_call 7; have _p := Td2; refine (evalV_calls (TT.ext (by first | exact hBd2 | exact hBd2.drew)) (hxd2.ext (by first | exact hcd2 | exact ext_alloc' hcd2 _ | exact hcd2.drew)) (hsc.ext (by first | exact hBd2 | exact hBd2.drew)) (n := (-1)) (f := 0) (by rw [HXd2.out]; decide) (by rw [HXd2.out]; decide)).mono ?_; rintro _ wd3 ⟨_, rfl, hbd3, rfl⟩; have hBd3 : Below w5.heap.size w5 wd3 := ext_trans (by first | exact hBd2 | exact hBd2.drew) hbd3) | (go_at_call 18; have _p := Td1; refine (in_calls (HNUM.out _ 3 (by decide))).mono ?_; rintro _ wd2 ⟨vd2, rfl, hbd2, hxd2'⟩; have hxd2 := ExprV.bound hxd2'; clear hxd2'; obtain ⟨Xd2, hXd2⟩ : ∃ X, X = oneE 2 (numE 3) := ⟨_, rfl⟩; rw [← hXd2] at hxd2; have HXd2 := Lib.hid hXd2; clear hXd2; obtain ⟨ad2, cd2, rfl, _⟩ := hxd2.parts; have hcd2 := Below.refl wd2.heap.size wd2; have hzd2 := hbd2.size; (try simp only [World.size_alloc, World.size_drew] at hzd2); have hBd2 : Below w5.heap.size w5 wd2 := ext_trans (by first | exact hBd1 | exact ext_alloc' hBd1 _ | exact hBd1.drew | exact ext_alloc' hBd1.drew _) hbd2; have Td2 : True := trivial) | (go_at_call 12; refine (refNum_calls _ 3).mono ?_; rintro _ wd1 ⟨_, rfl, hbd1, rfl⟩; have hzd1 := hbd1.size; (try simp only [World.size_drew] at hzd1); have hBd1 : Below w5.heap.size w5 wd1 := ext_trans (by first | exact hrefl | exact ext_alloc' hrefl _ | exact hrefl.drew | exact ext_alloc' hrefl.drew _) hbd1; have Td1 : True := trivial))
      obtain ⟨w6, rfl⟩ : ∃ w6 : World, w6 = wd3 := ⟨_, rfl⟩
      clear KEEP hrefl one0 one1 one2 s0 s1 s2 s3 s4 s5 s6 s7 s8
      have rS := rS.ext hBd3
      have rO := rO.ext hBd3
      have hsc := hsc.ext hBd3
      have TT := TT.ext hBd3
      have EE := ext_trans EE hBd3
      obtain ⟨one0, one1, one2⟩ := rO.three
      obtain ⟨s0, s1, s2, s3, s4, s5, s6, s7, s8⟩ := rS.nine
      go_upto_region 8 with fail
      have hrefl := Below.refl w6.heap.size w6
      have KEEP : ∀ W', Below w6.heap.size w6 W' → (fun w' : World => w'.cell? ⟨B2, 0, none⟩ = some (.int .i64 0) ∧ w'.cell? ⟨B2, 1, none⟩ = some (.int .i64 1) ∧ w'.cell? ⟨B2, 2, none⟩ = some (.slice none 0 0) ∧ w'.cell? ⟨B1, 0, none⟩ = some (.int .i64 3) ∧ w'.cell? ⟨B1, 1, none⟩ = some (.slice (some ⟨g1, 0, none⟩) 3 3) ∧ w'.cell? ⟨B1, 2, none⟩ = some (.slice (some ⟨g2, 0, none⟩) 3 3) ∧ w'.cell? ⟨B1, 3, none⟩ = some (.int .i64 3) ∧ w'.cell? ⟨B1, 4, none⟩ = some (.int .i64 7) ∧ w'.cell? ⟨B1, 5, none⟩ = some (.int .i64 4) ∧ w'.cell? ⟨B1, 6, none⟩ = some (.int .i64 0) ∧ w'.cell? ⟨B1, 7, none⟩ = some (.int .i64 0) ∧ w'.cell? ⟨B1, 8, none⟩ = some (.slice none 0 0) ∧ Below w6.heap.size w6 w') W' := fun W' hW' => ⟨cell_ext one0 hW', cell_ext one1 hW', cell_ext one2 hW', cell_ext s0 hW', cell_ext s1 hW', cell_ext s2 hW', cell_ext s3 hW', cell_ext s4 hW', cell_ext s5 hW', cell_ext s6 hW', cell_ext s7 hW', cell_ext s8 hW', hW'⟩
      have KEEP := Lib.hid KEEP
      go_region_held3 (fun w' : World => w'.cell? ⟨B2, 0, none⟩ = some (.int .i64 0) ∧ w'.cell? ⟨B2, 1, none⟩ = some (.int .i64 1) ∧ w'.cell? ⟨B2, 2, none⟩ = some (.slice none 0 0) ∧ w'.cell? ⟨B1, 0, none⟩ = some (.int .i64 3) ∧ w'.cell? ⟨B1, 1, none⟩ = some (.slice (some ⟨g1, 0, none⟩) 3 3) ∧ w'.cell? ⟨B1, 2, none⟩ = some (.slice (some ⟨g2, 0, none⟩) 3 3) ∧ w'.cell? ⟨B1, 3, none⟩ = some (.int .i64 3) ∧ w'.cell? ⟨B1, 4, none⟩ = some (.int .i64 7) ∧ w'.cell? ⟨B1, 5, none⟩ = some (.int .i64 4) ∧ w'.cell? ⟨B1, 6, none⟩ = some (.int .i64 0) ∧ w'.cell? ⟨B1, 7, none⟩ = some (.int .i64 0) ∧ w'.cell? ⟨B1, 8, none⟩ = some (.slice none 0 0) ∧ Below w6.heap.size w6 w')
        (first | (apply KEEP.out; first | assumption | (apply Below.drew; assumption) | (apply ext_alloc'; assumption) | (apply Below.drew; apply ext_alloc'; assumption) | (apply ext_alloc'; apply Below.drew; assumption) | (apply set3_below; assumption; assumption)))
        (first | (go_at_call 7; have _p := Te3; refine (evalV_calls (TT.ext (by first | exact hBe3 | exact hBe3.drew)) (hxe3.ext (by first | exact hce3 | exact ext_alloc' hce3 _ | exact hce3.drew)) (hsc.ext (by first | exact hBe3 | exact hBe3.drew)) (n := (-1)) (f := 0) (by rw [HXe3.out, HXe2.out]; decide) (by rw [HXe3.out, HXe2.out]; decide)).mono ?_; rintro _ we4 ⟨_, rfl, hbe4, rfl⟩; have hBe4 : Below w6.heap.size w6 we4 := ext_trans (by first | exact hBe3 | exact hBe3.drew) hbe4) | (go_at_call 18; have _p := Te2; refine (in_calls (hxe2.ext (by first | exact hce2 | exact ext_alloc' hce2 _ | exact hce2.drew))).mono ?_; rintro _ we3 ⟨ve3, rfl, hbe3, hxe3'⟩; have hxe3 := ExprV.bound hxe3'; clear hxe3'; obtain ⟨Xe3, hXe3⟩ : ∃ X, X = oneE 2 Xe2 := ⟨_, rfl⟩; rw [← hXe3] at hxe3; have HXe3 := Lib.hid hXe3; clear hXe3; obtain ⟨ae3, ce3, rfl, _⟩ := hxe3.parts; have hce3 := Below.refl we3.heap.size we3; have hze3 := hbe3.size; (try simp only [World.size_alloc, World.size_drew] at hze3); have hBe3 : Below w6.heap.size w6 we3 := ext_trans (by first | exact hBe2 | exact ext_alloc' hBe2 _ | exact hBe2.drew | exact ext_alloc' hBe2.drew _) hbe3; have Te3 : True := trivial) | (go_at_call 14; have _p := Te1; refine (refTwoE2_calls (HNUM.out _ 0 (by decide)) (HNUM.out _ 1 (by decide)) 6 (by decide)).mono ?_; rintro _ we2 ⟨ve2, rfl, hbe2, hxe2'⟩; have hxe2 := ExprV.bound hxe2'; clear hxe2'; obtain ⟨Xe2, hXe2⟩ : ∃ X, X = twoE 6 (numE 0) (numE 1) := ⟨_, rfl⟩; rw [← hXe2] at hxe2; have HXe2 := Lib.hid hXe2; clear hXe2; obtain ⟨ae2, ce2, rfl, _⟩ := hxe2.parts; have hce2 := Below.refl we2.heap.size we2; have hze2 := hbe2.size; (try simp only [World.size_alloc, World.size_drew] at hze2); have hBe2 : Below w6.heap.size w6 we2 := ext_trans (by first | exact hBe1 | exact ext_alloc' hBe1 _ | exact hBe1.drew | exact ext_alloc' hBe1.drew _) hbe2; have Te2 : True := trivial) | (go_at_call 12; refine (refNum_calls _ 0).mono ?_; rintro _ we1 ⟨_, rfl, hbe1, rfl⟩; have hze1 := hbe1.size; (try simp only [World.size_drew] at hze1); have hBe1 : Below w6.heap.size w6 we1 := ext_trans (by first | exact hrefl | exact ext_alloc' hrefl _ | exact hrefl.drew | exact ext_alloc' hrefl.drew _) hbe1; have Te1 : True := trivial))
      obtain ⟨w7, rfl⟩ : ∃ w7 : World, w7 = we4 := ⟨_, rfl⟩
      clear KEEP hrefl one0 one1 one2 s0 s1 s2 s3 s4 s5 s6 s7 s8
      have rS := rS.ext hBe4
      have rO := rO.ext hBe4
      have hsc := hsc.ext hBe4
      have TT := TT.ext hBe4
      have EE := ext_trans EE hBe4
      obtain ⟨one0, one1, one2⟩ := rO.three
      obtain ⟨s0, s1, s2, s3, s4, s5, s6, s7, s8⟩ := rS.nine
      go_upto_region 9 with fail
      have hrefl := Below.refl w7.heap.size w7
      have KEEP : ∀ W', Below w7.heap.size w7 W' → (fun w' : World => w'.cell? ⟨B2, 0, none⟩ = some (.int .i64 0) ∧ w'.cell? ⟨B2, 1, none⟩ = some (.int .i64 1) ∧ w'.cell? ⟨B2, 2, none⟩ = some (.slice none 0 0) ∧ w'.cell? ⟨B1, 0, none⟩ = some (.int .i64 3) ∧ w'.cell? ⟨B1, 1, none⟩ = some (.slice (some ⟨g1, 0, none⟩) 3 3) ∧ w'.cell? ⟨B1, 2, none⟩ = some (.slice (some ⟨g2, 0, none⟩) 3 3) ∧ w'.cell? ⟨B1, 3, none⟩ = some (.int .i64 3) ∧ w'.cell? ⟨B1, 4, none⟩ = some (.int .i64 7) ∧ w'.cell? ⟨B1, 5, none⟩ = some (.int .i64 4) ∧ w'.cell? ⟨B1, 6, none⟩ = some (.int .i64 0) ∧ w'.cell? ⟨B1, 7, none⟩ = some (.int .i64 0) ∧ w'.cell? ⟨B1, 8, none⟩ = some (.slice none 0 0) ∧ Below w7.heap.size w7 w') W' := fun W' hW' => ⟨cell_ext one0 hW', cell_ext one1 hW', cell_ext one2 hW', cell_ext s0 hW', cell_ext s1 hW', cell_ext s2 hW', cell_ext s3 hW', cell_ext s4 hW', cell_ext s5 hW', cell_ext s6 hW', cell_ext s7 hW', cell_ext s8 hW', hW'⟩
      have KEEP := Lib.hid KEEP
      go_region_held3 (fun w' : World => w'.cell? ⟨B2, 0, none⟩ = some (.int .i64 0) ∧ w'.cell? ⟨B2, 1, none⟩ = some (.int .i64 1) ∧ w'.cell? ⟨B2, 2, none⟩ = some (.slice none 0 0) ∧ w'.cell? ⟨B1, 0, none⟩ = some (.int .i64 3) ∧ w'.cell? ⟨B1, 1, none⟩ = some (.slice (some ⟨g1, 0, none⟩) 3 3) ∧ w'.cell? ⟨B1, 2, none⟩ = some (.slice (some ⟨g2, 0, none⟩) 3 3) ∧ w'.cell? ⟨B1, 3, none⟩ = some (.int .i64 3) ∧ w'.cell? ⟨B1, 4, none⟩ = some (.int .i64 7) ∧ w'.cell? ⟨B1, 5, none⟩ = some (.int .i64 4) ∧ w'.cell? ⟨B1, 6, none⟩ = some (.int .i64 0) ∧ w'.cell? ⟨B1, 7, none⟩ = some (.int .i64 0) ∧ w'.cell? ⟨B1, 8, none⟩ = some (.slice none 0 0) ∧ Below w7.heap.size w7 w')
        (first | (apply KEEP.out; first | assumption | (apply Below.drew; assumption) | (apply ext_alloc'; assumption) | (apply Below.drew; apply ext_alloc'; assumption) | (apply ext_alloc'; apply Below.drew; assumption) | (apply set3_below; assumption; assumption)))
        (first | (go_at_call 7; have _p := Tf3; refine (evalV_calls (TT.ext (by first | exact hBf3 | exact hBf3.drew)) (hxf3.ext (by first | exact hcf3 | exact ext_alloc' hcf3 _ | exact hcf3.drew)) (hsc.ext (by first | exact hBf3 | exact hBf3.drew)) (n := 0) (f := 0) (by rw [HXf3.out, HXf2.out]; decide) (by rw [HXf3.out, HXf2.out]; decide)).mono ?_; rintro _ wf4 ⟨_, rfl, hbf4, rfl⟩; have hBf4 : Below w7.heap.size w7 wf4 := ext_trans (by first | exact hBf3 | exact hBf3.drew) hbf4) | (go_at_call 14; have _p := Tf2; refine (refTwoE2_calls (hxf2.ext (by first | exact hcf2 | exact ext_alloc' hcf2 _ | exact hcf2.drew)) (HNUM.out _ 1 (by decide)) 5 (by decide)).mono ?_; rintro _ wf3 ⟨vf3, rfl, hbf3, hxf3'⟩; have hxf3 := ExprV.bound hxf3'; clear hxf3'; obtain ⟨Xf3, hXf3⟩ : ∃ X, X = twoE 5 Xf2 (numE 1) := ⟨_, rfl⟩; rw [← hXf3] at hxf3; have HXf3 := Lib.hid hXf3; clear hXf3; obtain ⟨af3, cf3, rfl, _⟩ := hxf3.parts; have hcf3 := Below.refl wf3.heap.size wf3; have hzf3 := hbf3.size; (try simp only [World.size_alloc, World.size_drew] at hzf3); have hBf3 : Below w7.heap.size w7 wf3 := ext_trans (by first | exact hBf2 | exact ext_alloc' hBf2 _ | exact hBf2.drew | exact ext_alloc' hBf2.drew _) hbf3; have Tf3 : True := trivial) | (go_at_call 16; have _p := Tf1; refine (out_calls (HNUM.out _ 2 (by decide))).mono ?_; rintro _ wf2 ⟨vf2, rfl, hbf2, hxf2'⟩; have hxf2 := ExprV.bound hxf2'; clear hxf2'; obtain ⟨Xf2, hXf2⟩ : ∃ X, X = oneE 3 (numE 2) := ⟨_, rfl⟩; rw [← hXf2] at hxf2; have HXf2 := Lib.hid hXf2; clear hXf2; obtain ⟨af2, cf2, rfl, _⟩ := hxf2.parts; have hcf2 := Below.refl wf2.heap.size wf2; have hzf2 := hbf2.size; (try simp only [World.size_alloc, World.size_drew] at hzf2); have hBf2 : Below w7.heap.size w7 wf2 := ext_trans (by first | exact hBf1 | exact ext_alloc' hBf1 _ | exact hBf1.drew | exact ext_alloc' hBf1.drew _) hbf2; have Tf2 : True := trivial) | (go_at_call 12; refine (refNum_calls _ 2).mono ?_; rintro _ wf1 ⟨_, rfl, hbf1, rfl⟩; have hzf1 := hbf1.size; (try simp only [World.size_drew] at hzf1); have hBf1 : Below w7.heap.size w7 wf1 := ext_trans (by first | exact hrefl | exact ext_alloc' hrefl _ | exact hrefl.drew | exact ext_alloc' hrefl.drew _) hbf1; have Tf1 : True := trivial))
      obtain ⟨w8, rfl⟩ : ∃ w8 : World, w8 = wf4 := ⟨_, rfl⟩
      clear KEEP hrefl one0 one1 one2 s0 s1 s2 s3 s4 s5 s6 s7 s8
      have rS := rS.ext hBf4
      have rO := rO.ext hBf4
      have hsc := hsc.ext hBf4
      have TT := TT.ext hBf4
      have EE := ext_trans EE hBf4
      obtain ⟨one0, one1, one2⟩ := rO.three
      obtain ⟨s0, s1, s2, s3, s4, s5, s6, s7, s8⟩ := rS.nine
      go_upto_region 12 with fail
      clear one0 one1 one2 s0 s1 s2 s3 s4 s5 s6 s7 s8
      have hrefl := Below.refl w8.heap.size w8
      go_wp2_with fail
      refine (v_calls _ 0).mono ?_
      rintro _ wg1 ⟨_, rfl, hbg1, rfl⟩
      have hzg1 := hbg1.size
      (try simp only [World.size_alloc, World.size_drew] at hzg1)
      have hBg1 : Below w8.heap.size w8 wg1 := ext_trans (by first | exact hrefl | exact ext_alloc' hrefl _ | exact hrefl.drew | exact ext_alloc' hrefl.drew _) hbg1
      go_wp2_with fail
      refine (in_calls (HVAR.out _ 0 (by decide))).mono ?_
      rintro _ wg2 ⟨vg2, rfl, hbg2, hxg2'⟩
      have hxg2 := ExprV.bound hxg2'
      clear hxg2'
      obtain ⟨Xg2, hXg2⟩ : ∃ X, X = oneE 2 (varE 0) := ⟨_, rfl⟩
      rw [← hXg2] at hxg2
      have HXg2 := Lib.hid hXg2
      clear hXg2
      obtain ⟨ag2, cg2, rfl, _⟩ := hxg2.parts
      have hcg2 := Below.refl wg2.heap.size wg2
      have hzg2 := hbg2.size
      (try simp only [World.size_alloc, World.size_drew] at hzg2)
      have hBg2 : Below w8.heap.size w8 wg2 := ext_trans (by first | exact hBg1 | exact ext_alloc' hBg1 _ | exact hBg1.drew | exact ext_alloc' hBg1.drew _) hbg2
      go_wp2_with fail
      refine (refNum_calls _ 2).mono ?_
      rintro _ wg3 ⟨_, rfl, hbg3, rfl⟩
      have hzg3 := hbg3.size
      (try simp only [World.size_alloc, World.size_drew] at hzg3)
      have hBg3 : Below w8.heap.size w8 wg3 := ext_trans (by first | exact hBg2 | exact ext_alloc' hBg2 _ | exact hBg2.drew | exact ext_alloc' hBg2.drew _) hbg3
      have hcg2 := ext_trans (by first | exact hcg2 | exact ext_alloc' hcg2 _) hbg3
      go_wp2_with fail
      refine (refTwoE2_calls (hxg2.ext (by first | exact hcg2 | exact ext_alloc' hcg2 _ | exact hcg2.drew)) (HNUM.out _ 2 (by decide)) 8 (by decide)).mono ?_
      rintro _ wg4 ⟨vg4, rfl, hbg4, hxg4'⟩
      have hxg4 := ExprV.bound hxg4'
      clear hxg4'
      obtain ⟨Xg4, hXg4⟩ : ∃ X, X = twoE 8 Xg2 (numE 2) := ⟨_, rfl⟩
      rw [← hXg4] at hxg4
      have HXg4 := Lib.hid hXg4
      clear hXg4
      obtain ⟨ag4, cg4, rfl, _⟩ := hxg4.parts
      have hcg4 := Below.refl wg4.heap.size wg4
      have hzg4 := hbg4.size
      (try simp only [World.size_alloc, World.size_drew] at hzg4)
      have hBg4 : Below w8.heap.size w8 wg4 := ext_trans (by first | exact hBg3 | exact ext_alloc' hBg3 _ | exact hBg3.drew | exact ext_alloc' hBg3.drew _) hbg4
      go_wp2_with fail
      refine (refOne_calls (hxg4.ext (by first | exact hcg4 | exact ext_alloc' hcg4 _ | exact hcg4.drew)) 13 (by decide)).mono ?_
      rintro _ wg5 ⟨vg5, rfl, hbg5, hxg5'⟩
      have hxg5 := ExprV.bound hxg5'
      clear hxg5'
      obtain ⟨Xg5, hXg5⟩ : ∃ X, X = oneE 13 Xg4 := ⟨_, rfl⟩
      rw [← hXg5] at hxg5
      have HXg5 := Lib.hid hXg5
      clear hXg5
      obtain ⟨ag5, cg5, rfl, _⟩ := hxg5.parts
      have hcg5 := Below.refl wg5.heap.size wg5
      have hzg5 := hbg5.size
      (try simp only [World.size_alloc, World.size_drew] at hzg5)
      have hBg5 : Below w8.heap.size w8 wg5 := ext_trans (by first | exact hBg4 | exact ext_alloc' hBg4 _ | exact hBg4.drew | exact ext_alloc' hBg4.drew _) hbg5
      go_upto_region 13 with fail
      obtain ⟨w9, hw⟩ : ∃ w, w = wg5.alloc (.cells #[.int .i64 Xg5.op, .int .i64 Xg5.num, .slice ag5 Xg5.args.length cg5] 24) := ⟨_, rfl⟩
      rw [← hw]
      obtain ⟨G12, hG⟩ : ∃ G, G = wg5.heap.size := ⟨_, rfl⟩
      have r12 : Row w9 G12 24 [.int .i64 Xg5.op, .int .i64 Xg5.num, .slice ag5 Xg5.args.length cg5] := by rw [hw, hG]; exact row_new _ _ _
      have hb9 : Below wg5.heap.size wg5 w9 := by rw [hw]; exact ext_alloc _ _
      rw [← hG]
      clear hw hG
      have hx12 := hxg5.ext hb9
      have HX12 := Lib.hid (show Xg5 = oneE 13 (twoE 8 (oneE 2 (varE 0)) (numE 2)) by rw [HXg5.out, HXg4.out, HXg2.out])
      have hb89 := ext_trans hBg5 hb9
      have rO := rO.ext hb89
      have TT := TT.ext hb89
      have EE := ext_trans EE hb89
      clear hrefl
      obtain ⟨t120, t121, t122⟩ := r12.three
      go_wp2_with fail
      refine (refOne_calls hx12 12 (by decide)).mono ?_
      rintro _ wn1 ⟨vn1, rfl, hbn1, hxn1⟩
      obtain ⟨Xn1, hXn1⟩ : ∃ X, X = oneE 12 Xg5 := ⟨_, rfl⟩
      rw [← hXn1] at hxn1
      have HXn1 := Lib.hid hXn1
      clear hXn1
      obtain ⟨an1, cn1, rfl, _⟩ := hxn1.parts
      have NEG := Lib.hid (negV_calls (x := oneE 13 (twoE 8 (oneE 2 (varE 0)) (numE 2))) (f := 0) (TT.ext hbn1) hxn1 (by rw [HXn1.out, HX12.out]; decide) 0 (by rw [HXn1.out, HX12.out]; decide))
      go_wp2_with fail
      refine NEG.out.mono ?_
      rintro _ wn2 ⟨_, rfl, hbn2, u, rfl, hxn2⟩
      obtain ⟨X13, hX13⟩ : ∃ X, X = oneE 13 (twoE 8 (oneE 2 (varE 0)) (numE 2)) := ⟨_, rfl⟩
      rw [← hX13] at hxn2
      have HX13 := Lib.hid hX13
      clear hX13
      obtain ⟨an2, cn2, rfl, _⟩ := hxn2.parts
      have hbn := ext_trans hbn1 hbn2
      clear t120 t121 t122
      go_upto_region 14 with fail
      obtain ⟨w10, hw⟩ : ∃ w, w = wn2.alloc (.cells #[.int .i64 X13.op, .int .i64 X13.num, .slice an2 X13.args.length cn2] 24) := ⟨_, rfl⟩
      rw [← hw]
      obtain ⟨G13, hG⟩ : ∃ G, G = wn2.heap.size := ⟨_, rfl⟩
      have r13 : Row w10 G13 24 [.int .i64 X13.op, .int .i64 X13.num, .slice an2 X13.args.length cn2] := by rw [hw, hG]; exact row_new _ _ _
      have hb10 : Below wn2.heap.size wn2 w10 := by rw [hw]; exact ext_alloc _ _
      rw [← hG]
      clear hw hG
      have hx13 := hxn2.ext hb10
      have hb910 := ext_trans hbn hb10
      have r12 := r12.ext hb910
      have hx12 := hx12.ext hb910
      have rO := rO.ext hb910
      have TT := TT.ext hb910
      have EE := ext_trans EE hb910
      have hrefl := Below.refl w10.heap.size w10
      go_wp2_with fail
      refine (refNum_calls _ 0).mono ?_
      rintro _ wh1 ⟨_, rfl, hbh1, rfl⟩
      have hzh1 := hbh1.size
      (try simp only [World.size_alloc, World.size_drew] at hzh1)
      have hBh1 : Below w10.heap.size w10 wh1 := ext_trans (by first | exact hrefl | exact ext_alloc' hrefl _ | exact hrefl.drew | exact ext_alloc' hrefl.drew _) hbh1
      go_wp2_with fail
      refine (in_calls (HNUM.out _ 0 (by decide))).mono ?_
      rintro _ wh2 ⟨vh2, rfl, hbh2, hxh2'⟩
      have hxh2 := ExprV.bound hxh2'
      clear hxh2'
      obtain ⟨Xh2, hXh2⟩ : ∃ X, X = oneE 2 (numE 0) := ⟨_, rfl⟩
      rw [← hXh2] at hxh2
      have HXh2 := Lib.hid hXh2
      clear hXh2
      obtain ⟨ah2, ch2, rfl, _⟩ := hxh2.parts
      have hch2 := Below.refl wh2.heap.size wh2
      have hzh2 := hbh2.size
      (try simp only [World.size_alloc, World.size_drew] at hzh2)
      have hBh2 : Below w10.heap.size w10 wh2 := ext_trans (by first | exact hBh1 | exact ext_alloc' hBh1 _ | exact hBh1.drew | exact ext_alloc' hBh1.drew _) hbh2
      go_wp2_with fail
      refine (refNum_calls _ 0).mono ?_
      rintro _ wh3 ⟨_, rfl, hbh3, rfl⟩
      have hzh3 := hbh3.size
      (try simp only [World.size_alloc, World.size_drew] at hzh3)
      have hBh3 : Below w10.heap.size w10 wh3 := ext_trans (by first | exact hBh2 | exact ext_alloc' hBh2 _ | exact hBh2.drew | exact ext_alloc' hBh2.drew _) hbh3
      have hch2 := ext_trans (by first | exact hch2 | exact ext_alloc' hch2 _) hbh3
      go_wp2_with fail
      refine (isL_calls (hxh2.ext (by first | exact hch2 | exact ext_alloc' hch2 _ | exact hch2.drew)) (HNUM.out _ 0 (by decide))).mono ?_
      rintro _ wh4 ⟨vh4, rfl, hbh4, hxh4'⟩
      have hxh4 := ExprV.bound hxh4'
      clear hxh4'
      obtain ⟨Xh4, hXh4⟩ : ∃ X, X = twoE 7 Xh2 (numE 0) := ⟨_, rfl⟩
      rw [← hXh4] at hxh4
      have HXh4 := Lib.hid hXh4
      clear hXh4
      obtain ⟨ah4, ch4, rfl, _⟩ := hxh4.parts
      have hch4 := Below.refl wh4.heap.size wh4
      have hzh4 := hbh4.size
      (try simp only [World.size_alloc, World.size_drew] at hzh4)
      have hBh4 : Below w10.heap.size w10 wh4 := ext_trans (by first | exact hBh3 | exact ext_alloc' hBh3 _ | exact hBh3.drew | exact ext_alloc' hBh3.drew _) hbh4
      go_upto_region 15 with fail
      obtain ⟨w11, hw⟩ : ∃ w, w = wh4.alloc (.cells #[.int .i64 Xh4.op, .int .i64 Xh4.num, .slice ah4 Xh4.args.length ch4] 24) := ⟨_, rfl⟩
      rw [← hw]
      obtain ⟨G14, hG⟩ : ∃ G, G = wh4.heap.size := ⟨_, rfl⟩
      have r14 : Row w11 G14 24 [.int .i64 Xh4.op, .int .i64 Xh4.num, .slice ah4 Xh4.args.length ch4] := by rw [hw, hG]; exact row_new _ _ _
      have hb11 : Below wh4.heap.size wh4 w11 := by rw [hw]; exact ext_alloc _ _
      rw [← hG]
      clear hw hG
      have hx14 := (hxh4.ext hb11).bound
      have HX14 := Lib.hid (show Xh4 = twoE 7 (oneE 2 (numE 0)) (numE 0) by rw [HXh4.out, HXh2.out])
      have hb1011 := ext_trans hBh4 hb11
      have r12 := r12.ext hb1011
      have hx12 := hx12.ext hb1011
      have r13 := r13.ext hb1011
      have hx13 := hx13.ext hb1011
      have rO := rO.ext hb1011
      have TT := TT.ext hb1011
      have EE := ext_trans EE hb1011
      clear hrefl
      obtain ⟨one0, one1, one2⟩ := rO.three
      obtain ⟨t140, t141, t142⟩ := r14.three
      go_cut [9, 15] (fun s9 s15 wx => ∃ (G : Nat) (X : Ex) (a : Option Addr) (c : Nat), s15 = .pointer (some ⟨G, 0, none⟩) ∧ s9 = .int .i64 0 ∧ X = twoE 7 (oneE 2 (numE 0)) (numE 0) ∧ Below w11.heap.size w11 wx ∧ Row wx G 24 [.int .i64 X.op, .int .i64 X.num, .slice a X.args.length c] ∧ ExprV (fun _ => True) wx X (.agg #[.int .i64 X.op, .int .i64 X.num, .slice a X.args.length c]))
      case first =>
        as_aux_lemma =>
        have hrefl := Below.refl w11.heap.size w11
        have KEEP : ∀ W', Below w11.heap.size w11 W' → (fun w' : World => w'.cell? ⟨B2, 0, none⟩ = some (.int .i64 0) ∧ w'.cell? ⟨B2, 1, none⟩ = some (.int .i64 1) ∧ w'.cell? ⟨B2, 2, none⟩ = some (.slice none 0 0) ∧ w'.cell? ⟨G14, 0, none⟩ = some (.int .i64 Xh4.op) ∧ w'.cell? ⟨G14, 1, none⟩ = some (.int .i64 Xh4.num) ∧ w'.cell? ⟨G14, 2, none⟩ = some (.slice ah4 Xh4.args.length ch4) ∧ Below w11.heap.size w11 w') W' := fun W' hW' => ⟨cell_ext one0 hW', cell_ext one1 hW', cell_ext one2 hW', cell_ext t140 hW', cell_ext t141 hW', cell_ext t142 hW', hW'⟩
        have KEEP := Lib.hid KEEP
        go_region_held3 (fun w' : World => w'.cell? ⟨B2, 0, none⟩ = some (.int .i64 0) ∧ w'.cell? ⟨B2, 1, none⟩ = some (.int .i64 1) ∧ w'.cell? ⟨B2, 2, none⟩ = some (.slice none 0 0) ∧ w'.cell? ⟨G14, 0, none⟩ = some (.int .i64 Xh4.op) ∧ w'.cell? ⟨G14, 1, none⟩ = some (.int .i64 Xh4.num) ∧ w'.cell? ⟨G14, 2, none⟩ = some (.slice ah4 Xh4.args.length ch4) ∧ Below w11.heap.size w11 w')
          (first | (apply KEEP.out; first | assumption | (apply Below.drew; assumption) | (apply ext_alloc'; assumption) | (apply Below.drew; apply ext_alloc'; assumption) | (apply ext_alloc'; apply Below.drew; assumption) | (apply set3_below; assumption; assumption)))
          (first | (go_at_call 21; have _p := Tk4; refine (foldV_calls (x := twoE 7 (oneE 2 (numE 0)) (numE 0)) (f := 0) (TT.ext (by first | exact hBk4 | exact ext_alloc' hBk4 _)) (hxk4.ext (by first | exact hck4 | exact ext_alloc' hck4 _ | exact hck4.drew)) (by rw [HXk4.out, HXk3.out, HXk1.out, HX14.out]; decide) 0 (by rw [HXk4.out, HXk3.out, HXk1.out, HX14.out]; decide)).mono ?_; rintro _ wk5 ⟨_, rfl, hbk5, uk5, rfl, hxk5'⟩; have hxk5 := ExprV.bound hxk5'; clear hxk5'; obtain ⟨Xk5, hXk5⟩ : ∃ X, X = twoE 7 (oneE 2 (numE 0)) (numE 0) := ⟨_, rfl⟩; rw [← hXk5] at hxk5; have HXk5 := Lib.hid hXk5; clear hXk5; obtain ⟨ak5, ck5, rfl, _⟩ := hxk5.parts; have hzk5 := hbk5.size; (try simp only [World.size_alloc] at hzk5); have hBk5 : Below w11.heap.size w11 wk5 := ext_trans (by first | exact hBk4 | exact ext_alloc' hBk4 _) hbk5; (first | (have hrow := Row.ext (row_new wk4 [.int .i64 0, .int .i64 0, .slice none 0 0] 24) hbk5; have hge : w11.heap.size ≤ wk4.heap.size := hBk4.size) | (have hrow := Row.ext hrow hbk5) | skip); (first | (obtain ⟨z0, z1, z2⟩ := hrow.three; have y0 := hrow.free 0; have y1 := hrow.free 1; have y2 := hrow.free 2; have yl := hrow.lt) | skip)) | (go_at_call 14; have _p := Tk3; refine (refTwoE2_calls (hxk3.ext (by first | exact hck3 | exact ext_alloc' hck3 _ | exact hck3.drew)) (hx14.ext (by first | exact hBk3 | exact ext_alloc' hBk3 _ | exact hBk3.drew | exact ext_alloc' hBk3.drew _)) 10 (by decide)).mono ?_; rintro _ wk4 ⟨vk4, rfl, hbk4, hxk4'⟩; have hxk4 := ExprV.bound hxk4'; clear hxk4'; obtain ⟨Xk4, hXk4⟩ : ∃ X, X = twoE 10 Xk3 Xh4 := ⟨_, rfl⟩; rw [← hXk4] at hxk4; have HXk4 := Lib.hid hXk4; clear hXk4; obtain ⟨ak4, ck4, rfl, _⟩ := hxk4.parts; have hck4 := Below.refl wk4.heap.size wk4; have hzk4 := hbk4.size; (try simp only [World.size_alloc] at hzk4); have hBk4 : Below w11.heap.size w11 wk4 := ext_trans (by first | exact hBk3 | exact ext_alloc' hBk3 _ | exact hBk3.drew | exact ext_alloc' hBk3.drew _) hbk4; (first | (have hrow := Row.ext (row_new wk3 [.int .i64 0, .int .i64 0, .slice none 0 0] 24) hbk4; have hge : w11.heap.size ≤ wk3.heap.size := hBk3.size) | (have hrow := Row.ext hrow hbk4) | skip); have Tk4 : True := trivial) | (go_at_call 14; have _p := Tk2; refine (refTwoE2_calls (hxk1.ext (by first | exact hck1 | exact ext_alloc' hck1 _ | exact hck1.drew)) (HNUM.out _ 2 (by decide)) 9 (by decide)).mono ?_; rintro _ wk3 ⟨vk3, rfl, hbk3, hxk3'⟩; have hxk3 := ExprV.bound hxk3'; clear hxk3'; obtain ⟨Xk3, hXk3⟩ : ∃ X, X = twoE 9 Xk1 (numE 2) := ⟨_, rfl⟩; rw [← hXk3] at hxk3; have HXk3 := Lib.hid hXk3; clear hXk3; obtain ⟨ak3, ck3, rfl, _⟩ := hxk3.parts; have hck3 := Below.refl wk3.heap.size wk3; have hzk3 := hbk3.size; (try simp only [World.size_alloc] at hzk3); have hBk3 : Below w11.heap.size w11 wk3 := ext_trans (by first | exact hBk2 | exact ext_alloc' hBk2 _ | exact hBk2.drew | exact ext_alloc' hBk2.drew _) hbk3; (first | (have hrow := Row.ext (row_new wk2 [.int .i64 0, .int .i64 0, .slice none 0 0] 24) hbk3; have hge : w11.heap.size ≤ wk2.heap.size := hBk2.size) | (have hrow := Row.ext hrow hbk3) | skip); have Tk3 : True := trivial) | (go_at_call 12; have _p := Tk1; refine (refNum_calls _ 2).mono ?_; rintro _ wk2 ⟨_, rfl, hbk2, rfl⟩; have hzk2 := hbk2.size; (try simp only [World.size_alloc] at hzk2); have hBk2 : Below w11.heap.size w11 wk2 := ext_trans (by first | exact hBk1 | exact ext_alloc' hBk1 _ | exact hBk1.drew | exact ext_alloc' hBk1.drew _) hbk2; have hck1 := ext_trans (by first | exact hck1 | exact ext_alloc' hck1 _) hbk2; (first | (have hrow := Row.ext (row_new wk1 [.int .i64 0, .int .i64 0, .slice none 0 0] 24) hbk2; have hge : w11.heap.size ≤ wk1.heap.size := hBk1.size) | (have hrow := Row.ext hrow hbk2) | skip); have Tk2 : True := trivial) | (go_at_call 14; refine (refTwoE2_calls (HNUM.out _ 1 (by decide)) (HNUM.out _ 1 (by decide)) 5 (by decide)).mono ?_; rintro _ wk1 ⟨vk1, rfl, hbk1, hxk1'⟩; have hxk1 := ExprV.bound hxk1'; clear hxk1'; obtain ⟨Xk1, hXk1⟩ : ∃ X, X = twoE 5 (numE 1) (numE 1) := ⟨_, rfl⟩; rw [← hXk1] at hxk1; have HXk1 := Lib.hid hXk1; clear hXk1; obtain ⟨ak1, ck1, rfl, _⟩ := hxk1.parts; have hck1 := Below.refl wk1.heap.size wk1; have hzk1 := hbk1.size; (try simp only [World.size_alloc, World.size_drew] at hzk1); have hBk1 : Below w11.heap.size w11 wk1 := ext_trans (by first | exact hrefl | exact ext_alloc' hrefl _ | exact hrefl.drew | exact ext_alloc' hrefl.drew _) hbk1; (first | (have hrow := Row.ext (w := (w11.alloc (.cells #[.int .i64 0, .int .i64 0, .slice none 0 0] 24)).drew) (row_new w11 [.int .i64 0, .int .i64 0, .slice none 0 0] 24) hbk1; have hge : w11.heap.size ≤ w11.heap.size := hrefl.size) | (have hrow := Row.ext (row_new w11 [.int .i64 0, .int .i64 0, .slice none 0 0] 24) hbk1; have hge : w11.heap.size ≤ w11.heap.size := hrefl.size) | (have hrow := Row.ext hrow hbk1) | skip); have Tk1 : True := trivial))
        all_goals
          go_wp2_with fail
          go_meet
          first
            | exact ⟨_, Xk5, _, _, rfl, rfl, HXk5.out, ext_alloc' hBk5 _, row_new wk5 _ _, (hxk5.ext (ext_alloc _ _)).all⟩
            | exact ⟨_, Xk5, _, _, rfl, rfl, HXk5.out, set3_below _ _ _ hBk5 hge, row_set3 hrow _ _ _, (set3_exprT (S' := fun _ => True) _ _ _ hxk5 (by intro hc; (try simp only [World.size_alloc] at hc); omega) fun _ _ => trivial)⟩
      case rest =>
        obtain ⟨G15, X15, a15, c15, rfl, rfl, hX15, hb12, r15, hx15⟩ := hcut
        obtain ⟨w12, rfl⟩ : ∃ w12 : World, w12 = wc := ⟨_, rfl⟩
        have HX15 := Lib.hid hX15
        clear hX15 one0 one1 one2 t140 t141 t142
        have r12 := r12.ext hb12
        have hx12 := hx12.ext hb12
        have r13 := r13.ext hb12
        have hx13 := hx13.ext hb12
        have r14 := r14.ext hb12
        have hx14 := hx14.ext hb12
        have EE := ext_trans EE hb12
        have SM := Lib.hid (refSameV_calls (b := true) hx13 hx12 (by rw [HX13.out, HX12.out]; decide))
        obtain ⟨p0, p1, p2⟩ := r13.three
        obtain ⟨p3, p4, p5⟩ := r12.three
        go_wp2_with fail
        refine SM.out.mono ?_
        rintro _ wz0 ⟨_, rfl, hbz, rfl⟩
        clear p0 p1 p2 p3 p4 p5 SM
        have r12 := r12.ext hbz
        have hx12 := hx12.ext hbz
        have r13 := r13.ext hbz
        have hx13 := hx13.ext hbz
        have r14 := r14.ext hbz
        have hx14 := hx14.ext hbz
        have r15 := r15.ext hbz
        have hx15 := hx15.ext hbz
        have EE := ext_trans EE hbz
        clear hbz
        have SM := Lib.hid (refSameV_calls (b := true) hx15 hx14 (by rw [HX15.out, HX14.out]; decide))
        obtain ⟨p0, p1, p2⟩ := r15.three
        obtain ⟨p3, p4, p5⟩ := r14.three
        go_wp2_with fail
        refine SM.out.mono ?_
        rintro _ wz1 ⟨_, rfl, hbz, rfl⟩
        clear p0 p1 p2 p3 p4 p5 SM
        have r12 := r12.ext hbz
        have hx12 := hx12.ext hbz
        have r13 := r13.ext hbz
        have hx13 := hx13.ext hbz
        have r14 := r14.ext hbz
        have hx14 := hx14.ext hbz
        have r15 := r15.ext hbz
        have hx15 := hx15.ext hbz
        have EE := ext_trans EE hbz
        clear hbz
        have SM := Lib.hid (sameV_calls (b := true) hx13 hx12 (by rw [HX13.out, HX12.out]; decide))
        obtain ⟨p0, p1, p2⟩ := r13.three
        obtain ⟨p3, p4, p5⟩ := r12.three
        go_wp2_with fail
        refine SM.out.mono ?_
        rintro _ wz2 ⟨_, rfl, hbz, rfl⟩
        clear p0 p1 p2 p3 p4 p5 SM
        have r12 := r12.ext hbz
        have hx12 := hx12.ext hbz
        have r13 := r13.ext hbz
        have hx13 := hx13.ext hbz
        have r14 := r14.ext hbz
        have hx14 := hx14.ext hbz
        have r15 := r15.ext hbz
        have hx15 := hx15.ext hbz
        have EE := ext_trans EE hbz
        clear hbz
        have SM := Lib.hid (sameV_calls (b := false) hx13 hx15 (by rw [HX13.out, HX15.out]; decide))
        obtain ⟨p0, p1, p2⟩ := r13.three
        obtain ⟨p3, p4, p5⟩ := r15.three
        go_wp2_with fail
        refine SM.out.mono ?_
        rintro _ wz3 ⟨_, rfl, hbz, rfl⟩
        clear p0 p1 p2 p3 p4 p5 SM
        have r12 := r12.ext hbz
        have hx12 := hx12.ext hbz
        have r13 := r13.ext hbz
        have hx13 := hx13.ext hbz
        have r14 := r14.ext hbz
        have hx14 := hx14.ext hbz
        have r15 := r15.ext hbz
        have hx15 := hx15.ext hbz
        have EE := ext_trans EE hbz
        clear hbz
        go_wp2
        go_ret
        exact .mk EE rfl
end Go.Proofs.YthogcbffnbhalaaDoor

