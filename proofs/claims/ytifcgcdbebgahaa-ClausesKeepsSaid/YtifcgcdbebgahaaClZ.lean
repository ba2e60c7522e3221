/- The program's Assign. -/
import Derived.Test.YtifcgcdbebgahaaClY
namespace Go.Proofs.Ytifcgcdbebgahaa
set_option linter.unusedVariables false
open Go.RowKit
attribute [local go_sem ↓] Go.wp_at_zero Go.wp_at_succ

theorem COk.good {m : Mx} (h : COk m) : ∀ r ∈ m.rows, ∀ y ∈ r, goodP m.cols y = true := fun r hr y hy => row_good (n := m.cols) (l := m.rows) h hr hy
theorem var_wf {n y : Int} (hn : n ≤ 100000) (h : goodP n y = true) : WF (varP y) := by
  have := good_var hn h
  rw [varP_good hn h]
  exact WF.small (by omega)
theorem set_keep {w : World} {g h : Nat} {e : TypeId} {a b : Value} (x y : Value) (hr : Row w g e [a, b]) (hne : g ≠ h) :
    ((w.setCell ⟨h, 0, none⟩ x).setCell ⟨h, 1, none⟩ y).cell? ⟨g, 0, none⟩ = some a ∧ ((w.setCell ⟨h, 0, none⟩ x).setCell ⟨h, 1, none⟩ y).cell? ⟨g, 1, none⟩ = some b := by
  have h1 := (hr.grown (grownBy_setCell w h 0 x) (fun e => hne (by cases e; rfl))).grown (grownBy_setCell _ h 1 y) (fun e => hne (by cases e; rfl))
  exact h1.two
set_option maxRecDepth 100000 in
set_option maxHeartbeats 4000000 in
theorem assign_calls {S S' : Nat → Prop} {w : World} {va vb : Value} {m : Mx} {x : List Int} (ha : MatV S w va m) (hx : Ints S' w vb x) (hxl : x.length ≤ 100000) :
    Calls Try.prog 15 #[va, vb] w (Post w (RetM w.heap.size (assignS m x))) := by
  obtain ⟨cols, ll⟩ := m
  obtain ⟨ra, rfl, la⟩ := ha
  obtain ⟨aa, acap, rfl, aad, al1, alm⟩ := la.form
  obtain ⟨ab, nb, rfl, bd, bl1, blm⟩ := hx.form
  dsimp only at la al1 aad ⊢
  have ex := ext_alloc' (ext_alloc w (.cells #[.int .i64 cols, .slice aa ll.length acap] 24)) (.cells #[.int .i64 0, .slice none 0 0] 24)
  have r0 := (row_new w [.int .i64 cols, .slice aa ll.length acap] 24).alloc (.cells #[.int .i64 0, .slice none 0 0] 24)
  have r1 := row_new (w.alloc (.cells #[.int .i64 cols, .slice aa ll.length acap] 24)) [.int .i64 0, .slice none 0 0] 24
  simp only [World.size_alloc] at r1
  have KC := Lib.hid (assignment_calls (va := .agg #[.int .i64 cols, .slice aa ll.length acap]) (m := ⟨cols, ll⟩) ⟨_, rfl, la.ext ex⟩ (hx.ext ex) hxl)
  obtain ⟨c1, hc1⟩ : ∃ c1, c1 = checkC ⟨cols, ll⟩ := ⟨_, rfl⟩
  obtain ⟨c2, hc2⟩ : ∃ c2, c2 = assignE cols x := ⟨_, rfl⟩
  have HC1 := Lib.hid hc1
  have HC2 := Lib.hid hc2
  have LA := Lib.hid la
  clear la hx hc1 hc2
  go_enter Try.func15, Try.ntmps15
  go_wp2_with fail
  refine KC.out.mono ?_
  rintro _ w1 ⟨r, rfl, hb1, hp⟩
  have hx1 := ext_trans ex hb1
  have R0 := r0.ext hb1
  have R1 := r1.ext hb1
  unfold PAssign at hp
  dsimp only at hp
  rw [← HC1.out, ← HC2.out] at hp
  clear KC r0 r1 ex
  by_cases h1 : ¬ c1 = 0
  · rw [if_pos h1] at hp
    subst hp
    have e1 : (c1 != 0) = true := by simp [h1]
    have RR := Lib.hid (assignS_err (m := ⟨cols, ll⟩) (x := x) (HC1.out ▸ h1))
    rw [← HC1.out] at RR
    have R1 := R1.alloc (.cells #[.map none] 72)
    obtain ⟨q10, q11⟩ := R1.two
    have f10 := R1.free 0
    have f11 := R1.free 1
    clear h1
    go_wp2
    refine bodyPost_ret (v := .tuple #[.agg #[.int .i64 0, .slice none 0 0], .int .i64 c1]) (by simp [results, Try.results15, go_sem, q10, q11, f10, f11]) rfl ?_
    exact .mk (set2_below _ _ (ext_alloc' hx1 _) (by omega)) (.none RR.out)
  have h1 := Classical.not_not.1 h1
  rw [if_neg (by simp [h1])] at hp
  have H1 : Hid (checkC ⟨cols, ll⟩ = 0) := Lib.hid (HC1.out.symm.trans h1)
  have OK := Lib.hid (checkC_ok.1 H1.out)
  clear h1
  by_cases h2 : ¬ c2 = 0
  · rw [if_pos h2] at hp
    subst hp
    have e2 : (c2 != 0) = true := by simp [h2]
    have RR := Lib.hid (assignS_vec (m := ⟨cols, ll⟩) (x := x) H1.out (HC2.out ▸ h2))
    dsimp only at RR
    rw [← HC2.out] at RR
    have R1 := R1.alloc (.cells #[.map none] 72)
    obtain ⟨q10, q11⟩ := R1.two
    have f10 := R1.free 0
    have f11 := R1.free 1
    clear h2
    go_wp2
    refine bodyPost_ret (v := .tuple #[.agg #[.int .i64 0, .slice none 0 0], .int .i64 c2]) (by simp [results, Try.results15, go_sem, q10, q11, f10, f11]) rfl ?_
    exact .mk (set2_below _ _ (ext_alloc' hx1 _) (by omega)) (.none RR.out)
  have h2 := Classical.not_not.1 h2
  rw [if_neg (by simp [h2])] at hp
  obtain ⟨b, hb0, rfl, hM⟩ := hp
  have H2 : Hid (assignE cols x = 0) := Lib.hid (HC2.out.symm.trans h2)
  have RR := Lib.hid (assignS_ok (m := ⟨cols, ll⟩) (x := x) H1.out H2.out)
  have hc0 : cols ≤ 4096 := OK.out.c1
  have hll : ll.length ≤ 32768 := OK.out.r1
  have AO := Lib.hid ((assignE_ok (by omega)).1 H2.out)
  have hgood : ∀ r ∈ ll, ∀ y ∈ r, goodP cols y = true := OK.out.good
  have HLR := Lib.hid (left_rows (by omega) AO.out hgood)
  have hlen : ∀ r ∈ ll, r.length ≤ 4096 := fun r hr => OK.out.len (m := ⟨cols, ll⟩) hr
  obtain ⟨C, hC⟩ : ∃ C, C = w1.heap.size := ⟨_, rfl⟩
  have KA : Hid (∀ W, Below w1.heap.size w1 W → W.cell? ⟨C, 0, none⟩ = some (.map (some b)) → Calls Try.prog 47 #[.slice aa ll.length acap, .func (.func 48) #[] #[.pointer (some ⟨C, 0, none⟩)]] W (Post W fun w' r => Lists (fun b => W.heap.size ≤ b) w' r (assignP ll x))) := Lib.hid (fun W hW hc => by
    have hxW := ext_trans hx1 hW
    have := applyRows_calls (LA.out.ext hxW) (by omega) (g := 48) (cp := .pointer (some ⟨C, 0, none⟩)) (leftP x) (fun args w => by rfl)
      (fun W' hW' k hk u hu => left_calls (hM.ext (ext_trans hW hW')) (cell_ext hc hW') hu (by have := hlen _ (nthL_mem hk); omega) (fun y hy => var_wf (by omega) (hgood _ (nthL_mem hk) y hy)))
    rw [HLR.out] at this
    exact this)
  obtain ⟨D, hD⟩ : ∃ D, D = assignP ll x := ⟨_, rfl⟩
  rw [← hD] at KA RR
  have r2 := row_new w1 [.map (some b)] 72
  rw [← hC] at r2
  have R0 := R0.alloc (.cells #[.map (some b)] 72)
  have R1 := R1.alloc (.cells #[.map (some b)] 72)
  have hx2 := ext_alloc' hx1 (.cells #[.map (some b)] 72)
  have hx12 := ext_alloc w1 (.cells #[.map (some b)] 72)
  have HC := Lib.hid hC
  have e2 : (c1 != 0) = false := by rw [HC1.out, H1.out]; rfl
  clear hC h2 hM hgood hlen AO OK HLR hD
  obtain ⟨q00, q01⟩ := R0.two
  have qc := r2.cell (j := 0) rfl
  have hbW := fun n => ext_trans hx12 (drewN_below _ (w1.alloc (.cells #[.map (some b)] 72)) n)
  obtain ⟨W0, hW0⟩ : ∃ W0, W0 = w1.alloc (.cells #[.map (some b)] 72) := ⟨_, rfl⟩
  have HW0 := Lib.hid hW0
  rw [← hW0] at R0 R1 hx2 hx12 q00 q01 qc hbW
  have hl1 := R1.lt
  clear hW0 r2
  go_wp2
  rw [← HW0.out, ← HC.out]
  refine region_E (fun w' : World => w'.cell? ⟨w.heap.size, 0, none⟩ = some (.int .i64 cols) ∧ w'.cell? ⟨w.heap.size, 1, none⟩ = some (.slice aa ll.length acap)) (fun i => false) (by kernel_rfl) ?_ (fun hHeld => ?_)
  · exact ⟨q00, q01⟩
  refine anyE_take 0 (v := ?_) rfl (by kernel_rfl) (fun _ _ _ h => h) (by rfl) ?hy0 hHeld ?rest0
  case hy0 => (intro w hSw; (try dsimp only at hSw); go_simp; try with_reducible rfl)
  try simp only [Act.put, List.setIfInBounds_toArray, List.set_cons_zero, List.set_cons_succ]
  refine anyE_take 1 (v := ?_) rfl (by kernel_rfl) (fun _ _ _ h => h) (by rfl) ?hy1 hHeld ?rest1
  case hy1 => (intro w hSw; (try dsimp only at hSw); go_simp; try with_reducible rfl)
  try simp only [Act.put, List.setIfInBounds_toArray, List.set_cons_zero, List.set_cons_succ]
  refine anyE_take 2 (v := ?_) rfl (by kernel_rfl) (fun _ _ _ h => h) (by rfl) ?hy2 hHeld ?rest2
  case hy2 => (intro w hSw; (try dsimp only at hSw); go_simp; try with_reducible rfl)
  try simp only [Act.put, List.setIfInBounds_toArray, List.set_cons_zero, List.set_cons_succ]
  refine anyE_take 3 (v := ?_) rfl (by kernel_rfl) (fun _ _ _ h => h) (by rfl) ?hy3 hHeld ?rest3
  case hy3 => (intro w hSw; (try dsimp only at hSw); go_simp; try with_reducible rfl)
  try simp only [Act.put, List.setIfInBounds_toArray, List.set_cons_zero, List.set_cons_succ]
  refine anyE_one 4 rfl (by kernel_rfl) (fun K hK => ?_)
  go_simp
  refine hK.out _ _ (fun _ => ⟨q00, q01⟩) (fun hHeld => ?_); replace hHeld := hHeld rfl
  clear hK K
  try simp only [Act.put, List.setIfInBounds_toArray, List.set_cons_zero, List.set_cons_succ]
  refine anyE_one 5 rfl (by kernel_rfl) (fun K hK => ?_)
  go_simp; go_at_call 47; refine (KA.out _ (hbW _) (cell_ext qc (drewN_below _ _ _))).mono ?_; rintro _ w5 ⟨v5, rfl, hb5, hx5⟩; obtain ⟨a5, c5, rfl, _⟩ := hx5.form; have hbb := ext_trans (drewN_below _ _ 1) hb5; have hx6 := ext_trans hx2 hbb; have R1 := R1.ext hbb; have R0 := R0.ext hbb; have HX5 := Lib.hid hx5; have SK := set_keep (.int .i64 cols) (.slice a5 D.length c5) R0 (by omega : w.heap.size ≠ w.heap.size + 1); obtain ⟨q10, q11⟩ := R1.two; have f10 := R1.free 0; have f11 := R1.free 1; clear hx5 hb5
  refine hK.out _ _ (fun _ => ⟨cell_ext q00 hbb, cell_ext q01 hbb⟩) (fun hHeld => ?_); replace hHeld := hHeld rfl
  clear hK K
  try simp only [Act.put, List.setIfInBounds_toArray, List.set_cons_zero, List.set_cons_succ]
  refine anyE_take 6 (v := ?_) rfl (by kernel_rfl) (fun _ _ _ h => h) (by rfl) ?hy6 hHeld ?rest6
  case hy6 => (intro w hSw; (try dsimp only at hSw); go_simp; try with_reducible rfl)
  try simp only [Act.put, List.setIfInBounds_toArray, List.set_cons_zero, List.set_cons_succ]
  refine anyE_one 7 rfl (by kernel_rfl) (fun K hK => ?_)
  go_simp
  refine hK.out _ _ (fun _ => SK) (fun hHeld => ?_); replace hHeld := hHeld rfl
  clear hK K
  try simp only [Act.put, List.setIfInBounds_toArray, List.set_cons_zero, List.set_cons_succ]
  refine anyE_one 8 rfl (by kernel_rfl) (fun K hK => ?_)
  go_simp
  refine hK.out _ _ (fun _ => SK) (fun hHeld => ?_); replace hHeld := hHeld rfl
  clear hK K
  try simp only [Act.put, List.setIfInBounds_toArray, List.set_cons_zero, List.set_cons_succ]
  refine anyE_done (by kernel_rfl) ?_ _

  have R3 := row_set2 R1 (.int .i64 cols) (.slice a5 D.length c5)
  obtain ⟨z10, z11⟩ := R3.two
  have hs0 := hx6.size
  have hsW := hx2.size
  have hdw : (W0.drewN 1).heap.size = W0.heap.size := rfl
  have hgl := R1.lt
  go_wp2
  refine bodyPost_ret (v := .tuple #[.agg #[.int .i64 cols, .slice a5 D.length c5], .int .i64 0]) (by simp [results, Try.results15, go_sem, q10, q11, f10, f11]) rfl ?_
  refine .mk (set2_below _ _ hx6 (by omega)) (.mk RR.out ?_)
  refine ((HX5.out.mono (S' := fun b => W0.heap.size ≤ b) fun b hb => hb).agree (set2_agree _ _ ?_)).mono fun b hb => by omega
  omega
end Go.Proofs.Ytifcgcdbebgahaa
