/- The number of zeros at the end of a number. -/
import Derived.Test.YtmlgbaogkbfklaaDoorGrF
import Derived.Shelf.Spec.TrailingZeros
namespace Go.Proofs.YtmlgbaogkbfklaaDoor
set_option linter.unusedVariables false
open Go.RowKit
attribute [local go_sem ↓] Go.wp_at_zero Go.wp_at_succ

/-- The table holds what the library's text lays. -/
structure Tab (w : World) : Prop where
  pos : 2 ≤ w.heap.size
  tab : ∀ j, j < 64 → w.cell? ⟨1, j, none⟩ = some (.int .u8 (Lib.deBruijn64tab.getD j 0))
theorem Tab.ext {w w' : World} (h : Tab w) (hw : Below w.heap.size w w') : Tab w' where
  pos := Nat.le_trans h.pos hw.size
  tab := fun j hj => (hw.cell (p := ⟨1, _, none⟩) (by have := h.pos; simp; omega)).trans (h.tab j hj)

theorem info_byte : (Tryd.prog.info? 5).map (fun i => (i.zero, i.size, i.bytes)) = some (some (.int .u8 0), 1, 1) := by kernel_rfl
theorem idx_tab {k : Nat} (hk : k < 64) (W : World) : (Instr.indexAt 109 (.pointer (some ⟨1, 0, none⟩)) (.int .u64 k)).run Tryd.prog W = .ok (.pointer (some ⟨1, k, none⟩)) W := by
  obtain ⟨i, hi, hz1, hz2, hz3⟩ := info_parts info_byte
  have hA := Tryd.underlying109
  have hE : Tryd.prog.elem 109 = 5 := by simp [Program.elem, hA]
  have hL : Tryd.prog.arrayLen 109 = 64 := by simp [Program.arrayLen, hA]
  rw [run_indexAt_array W _ _ _ _ (by rw [hE, hL]; exact hA), hL, hE, if_pos (by omega)]
  simp [sizeOf, typeInfo, hi, hz2, Result.andThen, Addr.add]
  try exact fun h => h.symm
set_option maxHeartbeats 1000000 in
theorem tz64_core' (x k idx : Nat) (w : World) (hx0 : ((x : Int) == 0) = false)
    (key : IntKind.u64.wrap (bits BinOp.and IntKind.u64 (x : Int) (IntKind.u64.wrap (-(x : Int))) * 285870213051353865) / 288230376151711744 = (idx : Int))
    (hi : idx < 64) (hk : k < 64) (hcell : w.cell? ⟨1, idx, none⟩ = some (.int .u8 k)) :
    Calls Tryd.prog 84 #[.int .u64 x] w (QuietP w (.int .i64 k)) := by
  have q := fun W => idx_tab hi W
  go_enter Tryd.func84, Tryd.ntmps84
  go_wp2_with (simp only [key])
  go_ret
  exact .of rfl 0
theorem tz_calls {w : World} (T : Tab w) {x : Nat} (hx0 : x ≠ 0) (hx : x < 4294967296) : Calls Tryd.prog 82 #[.int .u64 x] w (QuietP w (.int .i64 (Lib.ctz 64 x))) := by
  obtain ⟨hlow, hk⟩ := Lib.lowest_bit 64 x hx0 (by omega)
  obtain ⟨hi, htab⟩ := Lib.deBruijn64_at _ hk
  have hcell := T.tab _ hi
  rw [htab] at hcell
  have K := Lib.hid ((tz64_core' x _ _ w (by simp; omega) (tz64_key x _ (by omega) hx0 hlow) hi hk hcell).mono fun _ _ h => h.take)
  obtain ⟨y, hy⟩ : ∃ y, y = Lib.ctz 64 x := ⟨_, rfl⟩
  rw [← hy] at K ⊢
  clear hlow hk hi htab hcell hy
  go_enter Tryd.func82, Tryd.ntmps82
  go_wp2_with fail
  refine K.out.mono ?_
  rintro _ w1 ⟨_, rfl, hq1, rfl⟩
  go_wp2
  go_ret
  exact .fin rfl hq1

/-! the elements of a set of numbers below five -/
def elemsN (x : Nat) : List Nat := (List.range 5).filter fun p => x.testBit p
theorem elems_step : ∀ x : Fin 32, x.val ≠ 0 → elemsN x.val = Lib.ctz 64 x.val :: elemsN (x.val &&& (x.val - 1)) ∧ Lib.ctz 64 x.val < 5 ∧ x.val &&& (x.val - 1) < x.val := by decide +kernel
theorem mem_elems {x p : Nat} : p ∈ elemsN x ↔ p < 5 ∧ x.testBit p = true := by simp [elemsN]
def elemsI (x : Nat) : List Int := (elemsN x).map (Nat.cast : Nat → Int)
theorem elemsI_step {x : Nat} (hx : x < 32) (h0 : x ≠ 0) : elemsI x = (Lib.ctz 64 x : Int) :: elemsI (x &&& (x - 1)) := by
  unfold elemsI
  rw [(elems_step ⟨x, hx⟩ h0).1, List.map_cons]
theorem elemsI_zero : elemsI 0 = [] := by decide +kernel
theorem elemsI_len : ∀ x : Nat, (elemsI x).length ≤ 5 := fun x => by
  unfold elemsI elemsN
  rw [List.length_map]
  exact Nat.le_trans (List.length_filter_le _ _) (by simp)
theorem elemsI_mem {x : Nat} {y : Int} (h : y ∈ elemsI x) : ∃ p : Nat, y = p ∧ p < 5 ∧ x.testBit p = true := by
  unfold elemsI at h
  obtain ⟨p, hp, rfl⟩ := List.mem_map.1 h
  exact ⟨p, rfl, mem_elems.1 hp⟩
end Go.Proofs.YtmlgbaogkbfklaaDoor
