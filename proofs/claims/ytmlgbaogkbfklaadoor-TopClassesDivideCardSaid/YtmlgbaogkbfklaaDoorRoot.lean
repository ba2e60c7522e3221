/- The contract of the closure of Join that finds the root of an element. -/
import Derived.Test.YtmlgbaogkbfklaaDoorForest
import Derived.Test.YtmlgbaogkbfklaaDoorLabels
namespace Go.Proofs.YtmlgbaogkbfklaaDoor
set_option linter.unusedVariables false
open Go.RowKit

/-- Block g holds a forest that has the roots of ps. -/
structure Woods (w : World) (g : Nat) (ps qs : List Int) : Prop where
  len : qs.length = ps.length
  forest : Forest qs
  roots : ∀ j, j < ps.length → root qs j = root ps j
  row : Row w g 3 (qs.map (Value.int .i64))

/-- Nothing has changed but block g. -/
structure But (g : Nat) (w w' : World) : Prop where
  agree : ∀ S : Nat → Prop, ¬ S g → Agree S w w'
  below : ∀ B, B ≤ g → Below B w w'

theorem But.refl (g : Nat) (w : World) : But g w w := ⟨fun S _ => .refl _ _, fun B _ => .refl _ _⟩
theorem But.trans {g : Nat} {a b c : World} (h : But g a b) (k : But g b c) : But g a c := ⟨fun S hS => (h.agree S hS).trans (k.agree S hS), fun B hB => (h.below B hB).trans (k.below B hB)⟩
theorem But.setCell (g j : Nat) (u : Value) (w : World) : But g w (w.setCell ⟨g, j, none⟩ u) :=
  ⟨fun S hS => .of_grown (grownBy_setCell w g j u) (fun b hb e => hS (by cases e; exact hb)), fun B hB => (Below.refl _ _).setCell hB u⟩
theorem But.drew (g : Nat) (w : World) : But g w w.drew := ⟨fun S _ => ⟨Nat.le_refl _, fun _ _ _ => rfl⟩, fun B _ => (Below.refl _ _).drew⟩

def RootP (w : World) (g : Nat) (ps : List Int) (i : Nat) (e : Ending) (w' : World) : Prop :=
  ∃ qs, e = .returned (.int .i64 (root ps i : Int)) ∧ Woods w' g ps qs ∧ But g w w'

set_option maxRecDepth 100000 in
theorem root_calls {w : World} {g P : Nat} {ps : List Int} (hR : Row w g 3 (ps.map (Value.int .i64))) (hP : w.cell? ⟨P, 0, none⟩ = some (.slice (some ⟨g, 0, none⟩) ps.length ps.length)) (hne : P ≠ g)
    (hF : Forest ps) (i : Nat) (hi : i < ps.length) :
    Calls Tryd.prog 42 #[.int .i64 i, .pointer (some ⟨P, 0, none⟩)] w (RootP w g ps i) := by
  have hPl : P < w.heap.size := World.block_lt_of_cell? w _ hP
  go_enter Tryd.func42, Tryd.ntmps42
  go_wp2
  go_loopw [0] (fun iv wr => ∃ (c : Nat) (qs : List Int), iv = .int .i64 c ∧ c < ps.length ∧ root ps c = root ps i ∧ Woods wr g ps qs ∧ But g w wr) (fun iv _ => (intOf iv).toNat)
  case atStart => exact ⟨i, ps, rfl, hi, rfl, ⟨rfl, hF, fun _ _ => rfl, hR⟩, .refl _ _⟩
  case round =>
    obtain ⟨c, qs, rfl, hc, hroot, hw, hb⟩ := hrel
    have hcq : c < qs.length := by rw [hw.len]; exact hc
    have hPr : wr.cell? ⟨P, 0, none⟩ = some (.slice (some ⟨g, 0, none⟩) ps.length ps.length) :=
      (World.cell?_of_block ((hb.agree (fun b => b = P) (fun e => hne e.symm)).block P rfl hPl)).trans hP
    obtain ⟨x, hx⟩ : ∃ x, x = par qs c := ⟨_, rfl⟩
    have h1 := hw.forest.par hcq
    rw [← hx] at h1
    have hxq : x < qs.length := by omega
    obtain ⟨y, hy⟩ : ∃ y, y = par qs x := ⟨_, rfl⟩
    have h2 := hw.forest.par hxq
    rw [← hy] at h2
    have c1 : wr.cell? ⟨g, c, none⟩ = some (.int .i64 (x : Int)) := hw.row.cell (by rw [List.getElem?_map, get?_nth hcq, h1.1]; rfl)
    have c2 : wr.cell? ⟨g, x, none⟩ = some (.int .i64 (y : Int)) := hw.row.cell (by rw [List.getElem?_map, get?_nth hxq, h2.1]; rfl)
    have f1 := hw.row.free c
    have hxp : x < ps.length := by rw [← hw.len]; exact hxq
    have HX := Lib.hid hx
    have HY := Lib.hid hy
    have hxc := h1.2
    have hyx := h2.2
    have HLEN := Lib.hid hw.len
    have HR := Lib.hid hroot
    clear hx hy h1 h2 hroot
    by_cases he : x = c
    · have he' : ((x : Int) != c) = false := by simp [he]
      have HE := Lib.hid he
      clear he
      go_wp2
      go_ret
      refine ⟨qs, ?_, hw, hb⟩
      have hfix : root qs c = c := root_fix (by rw [← HX.out, HE.out])
      have : root ps i = c := by rw [← HR.out, ← hw.roots c hc, hfix]
      rw [this]
      rfl
    · have he' : ((x : Int) != c) = true := by simp; omega
      go_wp2
      go_region
      all_goals go_wp2
      go_roundw
      case rel =>
        have hl := HLEN.out
        refine ⟨y, qs.set c (par qs (par qs c) : Nat), by rfl, by omega, ?_, ⟨by simpa using hl, hw.forest.set (by rw [← HX.out, ← HY.out]; omega), ?_, ?_⟩, ?_⟩
        · have r1 := root_step hw.forest hcq
          rw [← HX.out] at r1
          have r2 := root_step hw.forest hxq
          rw [← HY.out] at r2
          rw [← HR.out, ← hw.roots y (by omega), ← hw.roots c hc, r1, r2]
        · intro j hj
          rw [root_halve hw.forest hcq j (by omega), hw.roots j hj]
        · rw [← HX.out, ← HY.out, List.map_set]
          exact hw.row.set c _
        · exact (hb.trans (But.setCell g c _ _)).trans (But.drew g _)
      case measure => simp [intOf]; omega
end Go.Proofs.YtmlgbaogkbfklaaDoor
