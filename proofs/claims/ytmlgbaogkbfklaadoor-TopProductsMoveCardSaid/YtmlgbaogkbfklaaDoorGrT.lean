/- Renamed graphs. -/
import Derived.Test.YtmlgbaogkbfklaaDoorGrS
namespace Go.Proofs.YtmlgbaogkbfklaaDoor
set_option linter.unusedVariables false
open Go.RowKit
attribute [local go_sem ↓] Go.wp_at_zero Go.wp_at_succ

set_option maxRecDepth 100000 in
set_option maxHeartbeats 4000000 in
/-- The closure of Permute: what row q of the renamed graph is. -/
theorem permute1_calls {S S' : Nat → Prop} {w : World} {A B C n : Nat} {h : Nat → Nat} {pl : List Nat} (H : PermN pl) {pa ba : Option Addr} {pc bc : Nat} {l L : List Int} (hl : l = permI pl) (hv : Ints S w (.slice pa l.length pc) l) (hL : Ints S' w (.slice ba L.length bc) L)
    (RA : Row w A 33 [.slice pa l.length pc]) (RB : Row w B 24 (gC n fun p => (h p : Int))) (RC : Row w C 33 [.slice ba L.length bc]) {q m : Nat} (hq : q < L.length) (hm : m < 5) (hqm : nth L q = (m : Int)) (hs : h m < 2 ^ pl.length) :
    Calls Tryd.prog 35 #[.int .i64 q, .pointer (some ⟨A, 0, none⟩), .pointer (some ⟨B, 0, none⟩), .pointer (some ⟨C, 0, none⟩)] w (Post w fun _ r => r = .int .i64 (imgTo pl (h m) pl.length)) := by
  have KG := Lib.hid fun W (hW : Below w.heap.size w W) => set_calls (w := W) H (hl ▸ hv.ext hW) hs
  rw [← hl] at KG
  have cq : w.cell? (adr ba q) = some (.int .i64 m) := by
    obtain ⟨a0, cap0, e, _, _, _, hc, _⟩ := hL
    simp only [Value.slice.injEq] at e
    obtain ⟨rfl, _, _⟩ := e
    rw [hc q hq, hqm]
  obtain ⟨_, _, hfo, adL, _⟩ := hL.form
  injection hfo with e1 e2 e3
  subst e1 e3
  obtain ⟨i0, hi, hz0, hz1, hz2⟩ := info_parts info_int
  have qi := idx_one Tryd.underlying33 hi hz1 adL q hq
  have qb := idx_five B hm
  obtain ⟨y, hy⟩ : ∃ y, y = imgTo pl (h m) pl.length := ⟨_, rfl⟩
  rw [← hy] at KG ⊢
  obtain ⟨x, hx⟩ : ∃ x, x = h m := ⟨_, rfl⟩
  rw [← hx] at KG
  have HX := Lib.hid hx
  clear hx hy hs hv hL hl H hi hz0 hz1 hz2 adL e2 hqm
  go_enter Tryd.func35, Tryd.ntmps35
  go_wp2_with fail
  refine region_E (fun w9 : World => Row w9 A 33 [.slice pa l.length pc] ∧ Row w9 C 33 [.slice ba L.length bc] ∧ Row w9 B 24 (gC n fun p => (h p : Int)) ∧ w9.cell? (adr ba q) = some (.int .i64 m)) (fun i => false) (by kernel_rfl) ?_ (fun hHeld => ?_)
  · exact ⟨RA.ext (drewN_below _ _ 1), RC.ext (drewN_below _ _ 1), RB.ext (drewN_below _ _ 1), cell_ext cq (drewN_below _ _ 1)⟩
  refine anyE_take 0 (v := ?_) rfl (by kernel_rfl) (fun _ _ _ h => h) (by rfl) ?hy0 hHeld ?rest0
  case hy0 => (intro w9 hSw; (try dsimp only at hSw); obtain ⟨hS1, hS2, hS3, hS4⟩ := hSw; have s0 := hS1.cell (j := 0) rfl; have s1 := hS2.cell (j := 0) rfl; have s2 := hS3.hear hm; (try rw [← HX.out] at s2); clear hS1 hS2 hS3; go_simp; try with_reducible rfl)
  try simp only [Act.put, List.setIfInBounds_toArray, List.set_cons_zero, List.set_cons_succ]
  refine anyE_take 1 (v := ?_) rfl (by kernel_rfl) (fun _ _ _ h => h) (by rfl) ?hy1 hHeld ?rest1
  case hy1 => (intro w9 hSw; (try dsimp only at hSw); obtain ⟨hS1, hS2, hS3, hS4⟩ := hSw; have s0 := hS1.cell (j := 0) rfl; have s1 := hS2.cell (j := 0) rfl; have s2 := hS3.hear hm; (try rw [← HX.out] at s2); clear hS1 hS2 hS3; go_simp; try with_reducible rfl)
  try simp only [Act.put, List.setIfInBounds_toArray, List.set_cons_zero, List.set_cons_succ]
  refine anyE_take 2 (v := ?_) rfl (by kernel_rfl) (fun _ _ _ h => h) (by rfl) ?hy2 hHeld ?rest2
  case hy2 => (intro w9 hSw; (try dsimp only at hSw); obtain ⟨hS1, hS2, hS3, hS4⟩ := hSw; have s0 := hS1.cell (j := 0) rfl; have s1 := hS2.cell (j := 0) rfl; have s2 := hS3.hear hm; (try rw [← HX.out] at s2); clear hS1 hS2 hS3; go_simp; try with_reducible rfl)
  try simp only [Act.put, List.setIfInBounds_toArray, List.set_cons_zero, List.set_cons_succ]
  refine anyE_take 3 (v := ?_) rfl (by kernel_rfl) (fun _ _ _ h => h) (by rfl) ?hy3 hHeld ?rest3
  case hy3 => (intro w9 hSw; (try dsimp only at hSw); obtain ⟨hS1, hS2, hS3, hS4⟩ := hSw; have s0 := hS1.cell (j := 0) rfl; have s1 := hS2.cell (j := 0) rfl; have s2 := hS3.hear hm; (try rw [← HX.out] at s2); clear hS1 hS2 hS3; go_simp; try with_reducible rfl)
  try simp only [Act.put, List.setIfInBounds_toArray, List.set_cons_zero, List.set_cons_succ]
  refine anyE_take 4 (v := ?_) rfl (by kernel_rfl) (fun _ _ _ h => h) (by rfl) ?hy4 hHeld ?rest4
  case hy4 => (intro w9 hSw; (try dsimp only at hSw); obtain ⟨hS1, hS2, hS3, hS4⟩ := hSw; have s0 := hS1.cell (j := 0) rfl; have s1 := hS2.cell (j := 0) rfl; have s2 := hS3.hear hm; (try rw [← HX.out] at s2); clear hS1 hS2 hS3; go_simp; try with_reducible rfl)
  try simp only [Act.put, List.setIfInBounds_toArray, List.set_cons_zero, List.set_cons_succ]
  refine anyE_take 5 (v := ?_) rfl (by kernel_rfl) (fun _ _ _ h => h) (by rfl) ?hy5 hHeld ?rest5
  case hy5 => (intro w9 hSw; (try dsimp only at hSw); obtain ⟨hS1, hS2, hS3, hS4⟩ := hSw; have s0 := hS1.cell (j := 0) rfl; have s1 := hS2.cell (j := 0) rfl; have s2 := hS3.hear hm; (try rw [← HX.out] at s2); clear hS1 hS2 hS3; go_simp; try with_reducible rfl)
  try simp only [Act.put, List.setIfInBounds_toArray, List.set_cons_zero, List.set_cons_succ]
  refine anyE_take 6 (v := ?_) rfl (by kernel_rfl) (fun _ _ _ h => h) (by rfl) ?hy6 hHeld ?rest6
  case hy6 => (intro w9 hSw; (try dsimp only at hSw); obtain ⟨hS1, hS2, hS3, hS4⟩ := hSw; have s0 := hS1.cell (j := 0) rfl; have s1 := hS2.cell (j := 0) rfl; have s2 := hS3.hear hm; (try rw [← HX.out] at s2); clear hS1 hS2 hS3; go_simp; try with_reducible rfl)
  try simp only [Act.put, List.setIfInBounds_toArray, List.set_cons_zero, List.set_cons_succ]
  refine anyE_take 7 (v := ?_) rfl (by kernel_rfl) (fun _ _ _ h => h) (by rfl) ?hy7 hHeld ?rest7
  case hy7 => (intro w9 hSw; (try dsimp only at hSw); obtain ⟨hS1, hS2, hS3, hS4⟩ := hSw; have s0 := hS1.cell (j := 0) rfl; have s1 := hS2.cell (j := 0) rfl; have s2 := hS3.hear hm; (try rw [← HX.out] at s2); clear hS1 hS2 hS3; go_simp; try with_reducible rfl)
  try simp only [Act.put, List.setIfInBounds_toArray, List.set_cons_zero, List.set_cons_succ]
  refine anyE_one 8 rfl (by kernel_rfl) (fun K hK => ?_)
  go_simp; go_at_call 16; refine (KG.out _ (drewN_below _ _ 1)).mono ?_; rintro _ w5 ⟨_, rfl, hb5, rfl⟩
  have hbb := ext_trans (drewN_below _ _ 1) hb5; have RA := RA.ext hbb; have RB := RB.ext hbb; have RC := RC.ext hbb; have cq := cell_ext cq hbb; clear hb5
  refine hK.out _ _ (fun _ => ⟨RA, RC, RB, cq⟩) (fun hHeld => ?_); replace hHeld := hHeld rfl
  clear hK K
  try simp only [Act.put, List.setIfInBounds_toArray, List.set_cons_zero, List.set_cons_succ]
  refine anyE_take 9 (v := ?_) rfl (by kernel_rfl) (fun _ _ _ h => h) (by rfl) ?hy9 hHeld ?rest9
  case hy9 => (intro w9 hSw; go_simp; try with_reducible rfl)
  try simp only [Act.put, List.setIfInBounds_toArray, List.set_cons_zero, List.set_cons_succ]
  refine anyE_take 10 (v := ?_) rfl (by kernel_rfl) (fun _ _ _ h => h) (by rfl) ?hy10 hHeld ?rest10
  case hy10 => (intro w9 hSw; go_simp; try with_reducible rfl)
  try simp only [Act.put, List.setIfInBounds_toArray, List.set_cons_zero, List.set_cons_succ]
  refine anyE_take 11 (v := ?_) rfl (by kernel_rfl) (fun _ _ _ h => h) (by rfl) ?hy11 hHeld ?rest11
  case hy11 => (intro w9 hSw; go_simp; try with_reducible rfl)
  try simp only [Act.put, List.setIfInBounds_toArray, List.set_cons_zero, List.set_cons_succ]
  refine anyE_take 12 (v := ?_) rfl (by kernel_rfl) (fun _ _ _ h => h) (by rfl) ?hy12 hHeld ?rest12
  case hy12 => (intro w9 hSw; go_simp; try with_reducible rfl)
  try simp only [Act.put, List.setIfInBounds_toArray, List.set_cons_zero, List.set_cons_succ]
  refine anyE_take 13 (v := ?_) rfl (by kernel_rfl) (fun _ _ _ h => h) (by rfl) ?hy13 hHeld ?rest13
  case hy13 => (intro w9 hSw; go_simp; try with_reducible rfl)
  try simp only [Act.put, List.setIfInBounds_toArray, List.set_cons_zero, List.set_cons_succ]
  refine anyE_done (by kernel_rfl) ?_ _
  go_wp2
  go_ret
  exact .mk hbb rfl
end Go.Proofs.YtmlgbaogkbfklaaDoor
