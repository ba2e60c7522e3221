/- The closures of Assign. -/
import Derived.Test.YtifcgcdbebgahaaClV
namespace Go.Proofs.Ytifcgcdbebgahaa
set_option linter.unusedVariables false
open Go.RowKit
attribute [local go_sem ↓] Go.wp_at_zero Go.wp_at_succ

theorem look_all {w : World} {b n : Nat} {l : List Int} (h : MapV keyI w b (litV l) n) {v : Int} (hv : WF v) (W : World) (hW : QW w W) :
    (Instr.lookup 72 (.map (some b)) (.int .i64 v) false).run Try.prog W = .ok (.int .i64 (valOf l v)) W := by
  have := (h.ext hW.ext).look Try.underlying72 (zeroI W) (x := v) hv false
  rw [litV_get] at this
  exact this
set_option maxRecDepth 100000 in
set_option maxHeartbeats 2000000 in
theorem asg1_quiet {w : World} {b n P : Nat} {l : List Int} (hm : MapV keyI w b (litV l) n) (hP : w.cell? ⟨P, 0, none⟩ = some (.map (some b))) {x : Int} (hx : WF (varP x)) :
    Calls Try.prog 49 #[.int .i64 x, .pointer (some ⟨P, 0, none⟩)] w (QuietP w (.bool (valOf l (varP x) == x))) := by
  obtain ⟨v, hv⟩ : ∃ v, v = varP x := ⟨_, rfl⟩
  have HV := Lib.hid (fun W => (hv ▸ variable_quiet W x : Calls Try.prog 43 #[.int .i64 x] W (QuietP W (.int .i64 v))))
  rw [← hv] at hx
  have HL : ∀ n, (Instr.lookup 72 (.map (some b)) (.int .i64 v) false).run Try.prog (w.drewN n) = .ok (.int .i64 (valOf l v)) (w.drewN n) := fun n => look_all hm hx _ ⟨n, rfl⟩
  rw [← hv]
  obtain ⟨y, hy⟩ : ∃ y, y = valOf l v := ⟨_, rfl⟩
  rw [← hy] at HL ⊢
  clear hv hx hm hy
  go_enter Try.func49, Try.ntmps49
  go_wp2_with fail
  go_quiet ((go_at_call 43; exact quiet_calls (HV.out _)))
  go_wp2
  go_ret
  exact .fin rfl ((QW.refl _).drewN _)
set_option maxRecDepth 100000 in
set_option maxHeartbeats 2000000 in
theorem asg2_quiet {w : World} {b n P : Nat} {l : List Int} (hm : MapV keyI w b (litV l) n) (hP : w.cell? ⟨P, 0, none⟩ = some (.map (some b))) {x : Int} (hx : WF (varP x)) :
    Calls Try.prog 51 #[.int .i64 x, .pointer (some ⟨P, 0, none⟩)] w (QuietP w (.tuple #[.int .i64 x, .bool (valOf l (varP x) == 0)])) := by
  obtain ⟨v, hv⟩ : ∃ v, v = varP x := ⟨_, rfl⟩
  have HV := Lib.hid (fun W => (hv ▸ variable_quiet W x : Calls Try.prog 43 #[.int .i64 x] W (QuietP W (.int .i64 v))))
  rw [← hv] at hx
  have HL : ∀ n, (Instr.lookup 72 (.map (some b)) (.int .i64 v) false).run Try.prog (w.drewN n) = .ok (.int .i64 (valOf l v)) (w.drewN n) := fun n => look_all hm hx _ ⟨n, rfl⟩
  rw [← hv]
  obtain ⟨y, hy⟩ : ∃ y, y = valOf l v := ⟨_, rfl⟩
  rw [← hy] at HL ⊢
  clear hv hx hm hy
  go_enter Try.func51, Try.ntmps51
  go_wp2_with fail
  go_quiet ((go_at_call 43; exact quiet_calls (HV.out _)))
  go_wp2
  refine bodyPost_ret (v := .tuple #[.int .i64 x, .bool (y == 0)]) (by simp [results, Try.results51, go_sem]) rfl ?_
  exact .fin rfl ((QW.refl _).drewN _)
set_option maxRecDepth 100000 in
set_option maxHeartbeats 2000000 in
theorem unitLook {w : World} {b n : Nat} {l : List Int} (hm : MapV keyI w b (litV l) n) {v : Int} (hv : WF v) : ∀ m, (Instr.lookup 72 (.map (some b)) (.int .i64 v) false).run Try.prog (w.drewN m) = .ok (.int .i64 (valOf l v)) (w.drewN m) := fun m => look_all hm hv _ ⟨m, rfl⟩
end Go.Proofs.Ytifcgcdbebgahaa
