/- How arguments read as lists: for the statements' own frames. -/
import Derived.Test.YtnmbiibchajehaaRows
import Derived.Test.YtnmbiibchajehaaBase
import Derived.WalkKit
import Derived.ProofKit
import Derived.OpenShut
import Derived.ShutString
import Derived.ChangeOld
import Derived.Below
import Derived.Lib.SmallJoins
namespace Go.Proofs.Ytnmbiibchajehaa
set_option linter.unusedVariables false
open Go.ChangeShapes Go.WideShapes Go.ChangeAt Go.RowKit

theorem ownGodebug : ownKnob Try.prog.godebug = none := by kernel_rfl
theorem laidOutAll : laidOutB Try.prog = true := by kernel_rfl

theorem read_lt {H : Type} {enc : TypeId × Value → H} {W : World} {t : TypeId} {v : Value} {d : DataW H} {p : List MemPlace}
    (h : DataW.Trod enc Try.prog W 0 (fun _ => true) true t v d p) : ∀ x ∈ p, x.block < W.heap.size := by
  obtain ⟨m, hm⟩ := h; exact DataW.trod_lt m _ _ _ hm

theorem read_ints {H : Type} {enc : TypeId × Value → H} {W : World} {base : Nat} {v : Value} {d : DataW H} {p : List MemPlace} (hv : Value.okWide Try.prog W .any base 22 v)
    (h : DataW.Trod enc Try.prog W 0 (fun _ => true) true 22 v d p) : ∃ l, Ints (fun _ => True) W v l := by
  obtain ⟨a, len, cap, rfl⟩ := okWide_slice Try.underlying22 hv
  obtain ⟨fuel, hf⟩ := h
  rcases open_ints Try.underlying22 Try.underlying3 (by kernel_rfl) hf with ⟨hcs, _⟩ | ⟨x, l, c, zs, hcs, _, hl, hm, hz, _, hcell, hwz⟩
  · simp [Value.cells] at hcs
    obtain ⟨rfl, rfl, rfl⟩ := hcs
    exact ⟨[], Ints.nil _ _⟩
  · simp [Value.cells] at hcs
    obtain ⟨rfl, rfl, rfl⟩ := hcs
    have hz' : zs.length = cap := by simpa using hz
    have hlen : (zs.take len).length = len := by simp; omega
    refine ⟨zs.take len, ?_⟩
    have hw : ∀ y ∈ zs.take len, WF y := fun y hy => WF.of_lit (hwz y (List.mem_of_mem_take hy))
    by_cases h0 : zs.length = 0
    · have hl0 : len = 0 := by omega
      have hc0 : cap = 0 := by omega
      subst hl0 hc0
      exact ⟨some x, 0, by simp, .inl ⟨by simp, rfl⟩, by simp, by simp [maxLen], fun j hj => by simp at hj, hw⟩
    · have c0 := hcell 0 (by omega)
      have hx : x.spot = none := by
        have e : x.add 0 = x := by simp [Addr.add]
        rw [e] at c0
        unfold World.cell? at c0
        split at c0
        · split at c0
          · cases c0
          · rename_i hs; simpa using hs
        · cases c0
      have e : ∀ j, x.add j = adr (some x) j := by
        intro j
        unfold Addr.add adr
        split
        · rename_i hj; subst hj; cases x; simp at hx; simp [hx]
        · rfl
      have hb : x.block < W.heap.size := by
        have := World.block_lt_of_cell? W _ c0
        rw [e] at this
        simpa [adr] using this
      refine ⟨some x, cap, by rw [hlen], .inr ⟨x.block, x.off, by cases x; simp at hx; simp [hx], hb, trivial⟩, by omega, hm, fun j hj => ?_, hw⟩
      have := hcell j (by omega)
      rw [e] at this
      rw [this]
      congr 2
      rw [hlen] at hj
      simp [nth, hj]

theorem read_int {H : Type} {enc : TypeId × Value → H} {W : World} {base : Nat} {v : Value} {d : DataW H} {p : List MemPlace} (hv : Value.okWide Try.prog W .any base 3 v)
    (h : DataW.Trod enc Try.prog W 0 (fun _ => true) true 3 v d p) : ∃ x, v = .int .i64 x ∧ WF x := by
  obtain ⟨x, rfl, rfl, rfl, wx⟩ := open_int Try.underlying3 hv h
  exact ⟨x, rfl, WF.of_lit wx⟩
theorem cells_pair' : Try.prog.cellsOf 45 = 2 := by kernel_rfl
theorem cells_int' : Try.prog.cellsOf 3 = 1 := by kernel_rfl
theorem read_pair {H : Type} {enc : TypeId × Value → H} {W : World} {base : Nat} {v : Value} {d : DataW H} {p : List MemPlace} (hv : Value.okWide Try.prog W .any base 45 v)
    (h : DataW.Trod enc Try.prog W 0 (fun _ => true) true 45 v d p) : ∃ x : Int × Int, v = .agg #[.int .i64 x.1, .int .i64 x.2] ∧ WF x.1 ∧ WF x.2 := by
  simp only [Value.okWide, Try.underlying45] at hv
  obtain ⟨cs, rfl, hsz, _⟩ := hv
  obtain ⟨c0, c1, rfl⟩ := Joins.array2 (hsz.trans cells_pair')
  obtain ⟨fuel, hf⟩ := h
  obtain ⟨xs, m, _, _, _, hxl, hx⟩ := DataW.trod_array Try.underlying45 hf
  have e0 := hx 0 (by omega)
  have e1 := hx 1 (by omega)
  simp only [cells_int', Value.cells] at e0 e1
  obtain ⟨y0, hy0⟩ : ∃ y, xs[0]? = some y := ⟨_, List.getElem?_eq_getElem (show 0 < xs.length by omega)⟩
  obtain ⟨y1, hy1⟩ : ∃ y, xs[1]? = some y := ⟨_, List.getElem?_eq_getElem (show 1 < xs.length by omega)⟩
  rw [hy0] at e0
  rw [hy1] at e1
  obtain ⟨a, h0, _, w0⟩ := DataW.trod_int Try.underlying3 e0
  obtain ⟨b, h1, _, w1⟩ := DataW.trod_int Try.underlying3 e1
  simp at h0 h1
  subst h0 h1
  exact ⟨(a, b), rfl, WF.of_lit w0, WF.of_lit w1⟩
end Go.Proofs.Ytnmbiibchajehaa
