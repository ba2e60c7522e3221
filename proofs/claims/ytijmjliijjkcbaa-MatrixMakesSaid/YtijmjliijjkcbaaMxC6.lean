/- Several matrices: when all are small. -/
import Derived.Test.YtijmjliijjkcbaaMxC5
namespace Go.Proofs.Ytijmjliijjkcbaa
set_option linter.unusedVariables false
open Go.RowKit
attribute [local go_sem ↓] Go.wp_at_zero Go.wp_at_succ

def nthM (ms : List Mx) (k : Nat) : Mx := ms.getD k ⟨0, []⟩
/-- Block b holds the matrices. -/
def MatsV (S : Nat → Prop) (w : World) (b : Nat) (ms : List Mx) : Prop :=
  b < w.heap.size ∧ ∀ j, j < ms.length → ∃ rv, w.cell? ⟨b, j * 2, none⟩ = some (.int .i64 (nthM ms j).cols) ∧ w.cell? ⟨b, j * 2 + 1, none⟩ = some rv ∧ Lists S w rv (nthM ms j).rows
theorem MatsV.ext {S : Nat → Prop} {w w' : World} {b : Nat} {ms : List Mx} (h : MatsV S w b ms) (hb : Below w.heap.size w w') : MatsV S w' b ms := by
  refine ⟨Nat.lt_of_lt_of_le h.1 hb.size, fun j hj => ?_⟩
  obtain ⟨rv, c0, c1, hl⟩ := h.2 j hj
  exact ⟨rv, (hb.cell (p := ⟨b, j * 2, none⟩) h.1).trans c0, (hb.cell (p := ⟨b, j * 2 + 1, none⟩) h.1).trans c1, hl.ext hb⟩

theorem info_matrix : (Try.prog.info? 24).map (fun i => (i.size)) = some 2 := by kernel_rfl
theorem info_m : ∃ i, Try.prog.info? 24 = some i ∧ i.size = 2 := by
  have h := info_matrix
  cases h0 : Try.prog.info? 24 with
  | none => rw [h0] at h; cases h
  | some i => rw [h0] at h; exact ⟨i, rfl, by simpa using h⟩
theorem idx_mats {n b : Nat} : ∀ k : Nat, k < n → ∀ W : World, (Instr.indexAt 63 (.slice (some ⟨b, 0, none⟩) n n) (.int .i64 k)).run Try.prog W = .ok (.pointer (some ⟨b, k * 2, none⟩)) W := by
  intro k hk W
  obtain ⟨i, hi, h1⟩ := info_m
  have hE : Try.prog.elem 63 = 24 := by simp [Program.elem, Try.underlying63]
  rw [run_indexAt_slice W 63 _ n n .i64 k (by rw [hE]; exact Try.underlying63), if_pos (by omega), hE]
  simp [sizeOf, typeInfo, hi, h1, Result.andThen, Addr.add]
  exact fun h => h.symm

set_option maxRecDepth 100000 in
set_option maxHeartbeats 2000000 in
theorem few_calls {S : Nat → Prop} {w : World} {b : Nat} {ms : List Mx} (h : MatsV S w b ms) (hn : ms.length ≤ 100) :
    Calls Try.prog 14 #[.slice (some ⟨b, 0, none⟩) ms.length ms.length] w (Post w fun _ r => r = .bool (ms.all fewM)) := by
  obtain ⟨hbl, hm⟩ := h
  have HQ := Lib.hid (@idx_mats ms.length b)
  have HM := Lib.hid hm
  clear hm
  obtain ⟨E, hE⟩ : ∃ E, E = ms.all fewM := ⟨_, rfl⟩
  rw [← hE]
  have HE := Lib.hid hE
  clear hE
  go_enter Try.func14, Try.ntmps14
  go_wp2
  go_loopw [7] (fun i wr => ∃ k : Nat, k ≤ ms.length ∧ i = .int .i64 k ∧ Below w.heap.size w wr ∧ Hid (∀ j, j < k → fewM (nthM ms j) = true)) (fun i _ => ms.length - (intOf i).toNat)
  case atStart => exact ⟨0, Nat.zero_le _, rfl, .refl _ _, Lib.hid (fun j hj => by omega)⟩
  case round =>
    obtain ⟨k, hk, rfl, hb, hF⟩ := hrel
    by_cases hlt : k < ms.length
    · have q := HQ.out k hlt
      obtain ⟨rv, c0, c1, hl⟩ := HM.out k hlt
      have c0' := (hb.cell (p := ⟨b, k * 2, none⟩) hbl).trans c0
      have c1' := (hb.cell (p := ⟨b, k * 2 + 1, none⟩) hbl).trans c1
      clear c0 c1
      obtain ⟨m, hm⟩ : ∃ m, m = nthM ms k := ⟨_, rfl⟩
      rw [← hm] at c0' hl
      have HK := Lib.hid hm
      clear hm
      obtain ⟨a', cap', rfl, _, _, _⟩ := hl.form
      obtain ⟨rv, hrv⟩ : ∃ rv, rv = Value.slice a' m.rows.length cap' := ⟨_, rfl⟩
      rw [← hrv] at hl
      have hlr := hl.ext (ext_alloc' hb (.cells #[.int .i64 m.cols, rv] 24))
      have HC := Lib.hid (refFew_calls (v := .agg #[.int .i64 m.cols, rv]) (m := m) ⟨rv, rfl, hlr⟩)
      subst hrv
      go_wp2_with fail
      refine HC.out.mono ?_
      rintro _ w1 ⟨_, rfl, hb1, rfl⟩
      have hb2 := ext_trans (ext_alloc' hb (.cells #[.int .i64 m.cols, .slice a' m.rows.length cap'] 24)) hb1
      cases hf : fewM m with
      | true =>
        have HR : Hid (∀ j, j < k + 1 → fewM (nthM ms j) = true) := Lib.hid (fun j hj => by
            rcases Nat.lt_or_ge j k with h | h
            · exact hF.out j h
            · obtain rfl : j = k := by omega
              rw [← HK.out]; exact hf)
        clear hf
        go_wp2
        go_roundw
        case rel => exact ⟨k + 1, by omega, by go_num, hb2, HR⟩
        case measure => simp [intOf]; omega
      | false =>
        have HR : Hid (E = false) := Lib.hid (by
          rw [HE.out, List.all_eq_false]
          refine ⟨nthM ms k, ?_, by rw [← HK.out, hf]; simp⟩
          simp [nthM, hlt])
        clear hf
        go_wp2
        go_ret
        exact .mk hb2 (bool_eq HR.out.symm)
    · have HR : Hid (E = true) := Lib.hid (by
        rw [HE.out, List.all_eq_true]
        intro m hm
        obtain ⟨j, hj, rfl⟩ := List.getElem_of_mem hm
        have := hF.out j (by omega)
        simpa [nthM, hj] using this)
      go_wp2
      go_ret
      exact .mk hb (bool_eq HR.out.symm)
end Go.Proofs.Ytijmjliijjkcbaa
