/- How the law's bytes read. -/
import Derived.Test.YthogcbffnbhalaaDoorExFrame
namespace Go.Proofs.YthogcbffnbhalaaDoor
set_option linter.unusedVariables false
set_option linter.unusedSimpArgs false
set_option maxRecDepth 100000
open Go.ChangeShapes Go.WideShapes Go.ChangeAt Go.RowKit

theorem cellsR_byte : Tryd.prog.cellsOf 5 = 1 := by kernel_rfl
theorem cellsR_five8 : Tryd.prog.cellsOf 29 = 5 := by kernel_rfl
theorem byte_of {x : Int} (h : (Lit.int .u8 x).wf = true) : 0 ≤ x ∧ x < 256 := by
  simp [Lit.wf, IntKind.min, IntKind.max, IntKind.signed, IntKind.bits] at h
  omega
theorem byte_nat {x : Int} (h : (Lit.int .u8 x).wf = true) : ∃ y : Nat, x = y ∧ y < 256 := by
  have := byte_of h
  exact ⟨x.toNat, by omega, by omega⟩
theorem getP5 {α : Type} {l : List α} (h : l.length = 5) : ∃ a0 a1 a2 a3 a4, l = [a0, a1, a2, a3, a4] := by
  match l, h with
  | [a0, a1, a2, a3, a4], _ => exact ⟨a0, a1, a2, a3, a4, rfl⟩
section
variable {H : Type} {enc : TypeId × Value → H} {W : World}
set_option maxRecDepth 100000 in
theorem read_five {base : Nat} {v : Value} {d : DataW H} {p : List MemPlace} (hv : Value.okWide Tryd.prog W .any base 29 v)
    (h : DataW.Trod enc Tryd.prog W 0 (fun _ => true) true 29 v d p) : ∃ x0 x1 x2 x3 x4 : Nat, v = .agg #[.int .u8 x0, .int .u8 x1, .int .u8 x2, .int .u8 x3, .int .u8 x4] ∧ x0 < 256 ∧ x1 < 256 ∧ x2 < 256 ∧ x3 < 256 ∧ x4 < 256 := by
  obtain ⟨cs, rfl⟩ : ∃ cs, v = .agg cs := by
    simp only [Value.okWide, Tryd.underlying29] at hv
    obtain ⟨cs, h1, _⟩ := hv
    exact ⟨cs, h1⟩
  obtain ⟨fuel, hf⟩ := h
  obtain ⟨xs, m, rfl, hx, hlen, hxl, hg⟩ := DataW.trod_array Tryd.underlying29 hf
  rw [cellsR_five8] at hlen
  obtain ⟨l⟩ := cs
  obtain ⟨c0, c1, c2, c3, c4, hl2⟩ := getP5 hlen
  simp only [Value.cells] at hl2
  subst hl2
  have key : ∀ k, k < 5 → ∃ x : Nat, [c0, c1, c2, c3, c4].getD k undef = .int .u8 x ∧ x < 256 := fun k hk => by
    have h1 := hg k hk
    rw [cellsR_byte, Nat.mul_one, List.getElem?_eq_getElem (by omega)] at h1
    have : k = 0 ∨ k = 1 ∨ k = 2 ∨ k = 3 ∨ k = 4 := by omega
    rcases this with rfl | rfl | rfl | rfl | rfl
    · obtain ⟨z, e0, _, w0⟩ := DataW.trod_int Tryd.underlying5 h1
      obtain ⟨y, rfl, hy⟩ := byte_nat w0
      exact ⟨y, (List.cons.inj e0).1, hy⟩
    · obtain ⟨z, e0, _, w0⟩ := DataW.trod_int Tryd.underlying5 h1
      obtain ⟨y, rfl, hy⟩ := byte_nat w0
      exact ⟨y, (List.cons.inj e0).1, hy⟩
    · obtain ⟨z, e0, _, w0⟩ := DataW.trod_int Tryd.underlying5 h1
      obtain ⟨y, rfl, hy⟩ := byte_nat w0
      exact ⟨y, (List.cons.inj e0).1, hy⟩
    · obtain ⟨z, e0, _, w0⟩ := DataW.trod_int Tryd.underlying5 h1
      obtain ⟨y, rfl, hy⟩ := byte_nat w0
      exact ⟨y, (List.cons.inj e0).1, hy⟩
    · obtain ⟨z, e0, _, w0⟩ := DataW.trod_int Tryd.underlying5 h1
      obtain ⟨y, rfl, hy⟩ := byte_nat w0
      exact ⟨y, (List.cons.inj e0).1, hy⟩
  obtain ⟨x0, e0, w0⟩ := key 0 (by decide)
  simp only [List.getD_cons_zero, List.getD_cons_succ] at e0
  subst e0
  obtain ⟨x1, e1, w1⟩ := key 1 (by decide)
  simp only [List.getD_cons_zero, List.getD_cons_succ] at e1
  subst e1
  obtain ⟨x2, e2, w2⟩ := key 2 (by decide)
  simp only [List.getD_cons_zero, List.getD_cons_succ] at e2
  subst e2
  obtain ⟨x3, e3, w3⟩ := key 3 (by decide)
  simp only [List.getD_cons_zero, List.getD_cons_succ] at e3
  subst e3
  obtain ⟨x4, e4, w4⟩ := key 4 (by decide)
  simp only [List.getD_cons_zero, List.getD_cons_succ] at e4
  subst e4
  exact ⟨x0, x1, x2, x3, x4, rfl, w0, w1, w2, w3, w4⟩
end
end Go.Proofs.YthogcbffnbhalaaDoor
