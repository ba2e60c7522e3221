/- How arguments read as graphs and lists, and what the listed tables give. -/
import Derived.Test.YtmlgbaogkbfklaaDoorRows
import Derived.Test.YtmlgbaogkbfklaaDoorGrG
import Derived.WalkKit
import Derived.ProofKit
import Derived.OpenShut
import Derived.ShutString
import Derived.ChangeOld
import Derived.Below
import Derived.Lib.SmallJoins
import Derived.LaidMore
import Derived.Deep.Slices
import Derived.Stop.Joined
namespace Go.Proofs.YtmlgbaogkbfklaaDoor
set_option linter.unusedVariables false
set_option maxRecDepth 100000
open Go.ChangeShapes Go.WideShapes Go.ChangeAt Go.RowKit

theorem ownGodebug : ownKnob Tryd.prog.godebug = none := by kernel_rfl
theorem laidOutAll : laidOutB Tryd.prog = true := by kernel_rfl
theorem cells_int' : Tryd.prog.cellsOf 3 = 1 := by kernel_rfl
theorem cells_byte : Tryd.prog.cellsOf 5 = 1 := by kernel_rfl
theorem cells_tab : Tryd.prog.cellsOf 109 = 64 := by kernel_rfl
theorem cells_ints : Tryd.prog.cellsOf 33 = 1 := by kernel_rfl
theorem cells_five : Tryd.prog.cellsOf 22 = 5 := by kernel_rfl
theorem cells_graph : Tryd.prog.cellsOf 24 = 6 := by kernel_rfl

section
variable {H : Type} {enc : TypeId × Value → H} {W : World}

theorem read_lt {t : TypeId} {v : Value} {d : DataW H} {p : List MemPlace}
    (h : DataW.Trod enc Tryd.prog W 0 (fun _ => true) true t v d p) : ∀ x ∈ p, x.block < W.heap.size := by
  obtain ⟨m, hm⟩ := h; exact DataW.trod_lt m _ _ _ hm

theorem spot_none {a : Addr} {u : Value} (c0 : W.cell? a = some u) : a.spot = none := by
  unfold World.cell? at c0
  split at c0
  · split at c0
    · cases c0
    · rename_i hs; simpa using hs
  · cases c0
theorem add_zero' (a : Addr) : a.add 0 = a := by simp [Addr.add]
theorem add_adr {a : Addr} (h : a.spot = none) (j : Nat) : a.add j = adr (some a) j := by
  unfold Addr.add adr
  split
  · rename_i hj; subst hj; cases a; simp at h; simp [h]
  · rfl

theorem ints_of_trod {fuel : Nat} {cs : List Value} {y : DataW H × List MemPlace} (hf : DataW.trod enc Tryd.prog W 0 (fun _ => true) true fuel 33 cs = some y) : ∃ v l, cs = [v] ∧ Ints (fun _ => True) W v l := by
  rcases open_ints Tryd.underlying33 Tryd.underlying3 (by kernel_rfl) hf with ⟨hcs, _⟩ | ⟨x, l, c, zs, hcs, _, hl, hm, hz, _, hcell, hwz⟩
  · exact ⟨_, [], hcs, Ints.nil _ _⟩
  · have hz' : zs.length = c := by simpa using hz
    have hlen : (zs.take l).length = l := by simp; omega
    refine ⟨_, zs.take l, hcs, ?_⟩
    have hw : ∀ y ∈ zs.take l, WF y := fun y hy => WF.of_lit (hwz y (List.mem_of_mem_take hy))
    by_cases h0 : zs.length = 0
    · have hl0 : l = 0 := by omega
      have hc0 : c = 0 := by omega
      subst hl0 hc0
      exact ⟨some x, 0, by simp, .inl ⟨by simp, rfl⟩, by simp, by simp [maxLen], fun j hj => by simp at hj, hw⟩
    · have c0 := hcell 0 (by omega)
      rw [add_zero'] at c0
      have hx := spot_none c0
      have hb : x.block < W.heap.size := World.block_lt_of_cell? W _ c0
      refine ⟨some x, c, by rw [hlen], .inr ⟨x.block, x.off, by cases x; simp at hx; simp [hx], hb, trivial⟩, by omega, hm, fun j hj => ?_, hw⟩
      have := hcell j (by omega)
      rw [add_adr hx] at this
      rw [this]
      congr 2
      rw [hlen] at hj
      simp [nth, hj]

theorem read_ints {base : Nat} {v : Value} {d : DataW H} {p : List MemPlace} (hv : Value.okWide Tryd.prog W .any base 33 v)
    (h : DataW.Trod enc Tryd.prog W 0 (fun _ => true) true 33 v d p) : ∃ l, Ints (fun _ => True) W v l := by
  obtain ⟨a, len, cap, rfl⟩ := okWide_slice Tryd.underlying33 hv
  obtain ⟨fuel, hf⟩ := h
  obtain ⟨v, l, hv, hI⟩ := ints_of_trod hf
  simp only [Value.cells, List.cons.injEq, and_true] at hv
  subst hv
  exact ⟨l, hI⟩

theorem get5 {α : Type} {l : List α} (h : l.length = 5) : ∃ a b c d e, l = [a, b, c, d, e] := by
  match l, h with
  | [a, b, c, d, e], _ => exact ⟨a, b, c, d, e, rfl⟩
theorem get6 {α : Type} {l : List α} (h : l.length = 6) : ∃ a b c d e f, l = [a, b, c, d, e, f] := by
  match l, h with
  | [a, b, c, d, e, f], _ => exact ⟨a, b, c, d, e, f, rfl⟩
theorem get2 {α : Type} {l : List α} (h : l.length = 2) : ∃ a b, l = [a, b] := by
  match l, h with
  | [a, b], _ => exact ⟨a, b, rfl⟩
theorem read_graph {base : Nat} {v : Value} {d : DataW H} {p : List MemPlace} (hv : Value.okWide Tryd.prog W .any base 24 v)
    (h : DataW.Trod enc Tryd.prog W 0 (fun _ => true) true 24 v d p) : ∃ n f, v = gV n f := by
  obtain ⟨cs, rfl, _⟩ := okWide_struct Tryd.underlying24 hv
  obtain ⟨fuel, hf⟩ := h
  obtain ⟨xs, n, rfl, hx, hlen, hxl, hg⟩ := DataW.trod_struct Tryd.underlying24 hf
  rw [cells_graph] at hlen
  obtain ⟨l⟩ := cs
  obtain ⟨c0, c3, c4, c5, c6, c7, hl9⟩ := get6 hlen
  have hl9' : l = [c0, c3, c4, c5, c6, c7] := hl9
  subst hl9'
  obtain ⟨x0, x3, rfl⟩ := get2 (show xs.length = 2 from hxl)
  have h0 : DataW.trod enc Tryd.prog W 0 (fun _ => true) true n 3 (([c0, c3, c4, c5, c6, c7].drop 0).take (Tryd.prog.cellsOf 3)) = some x0 := hg 0 _ rfl
  have h3 : DataW.trod enc Tryd.prog W 0 (fun _ => true) true n 22 (([c0, c3, c4, c5, c6, c7].drop 1).take (Tryd.prog.cellsOf 22)) = some x3 := hg 1 _ rfl
  rw [cells_int'] at h0
  rw [cells_five] at h3
  obtain ⟨m, e0, _, w0⟩ := DataW.trod_int Tryd.underlying3 (show DataW.trod enc Tryd.prog W 0 (fun _ => true) true n 3 [c0] = some x0 from h0)
  simp only [List.cons.injEq, and_true] at e0
  subst e0
  obtain ⟨ys, k, rfl, hy, _, hyl, hj⟩ := DataW.trod_array Tryd.underlying22 (show DataW.trod enc Tryd.prog W 0 (fun _ => true) true n 22 [c3, c4, c5, c6, c7] = some x3 from h3)
  obtain ⟨y0, y1, y2, y3, y4, rfl⟩ := get5 hyl
  have j0 := hj 0 (by omega)
  have j1 := hj 1 (by omega)
  have j2 := hj 2 (by omega)
  have j3 := hj 3 (by omega)
  have j4 := hj 4 (by omega)
  rw [cells_int'] at j0 j1 j2 j3 j4
  obtain ⟨a0, f0, _, _⟩ := DataW.trod_int Tryd.underlying3 (show DataW.trod enc Tryd.prog W 0 (fun _ => true) true k 3 [c3] = some y0 from j0)
  obtain ⟨a1, f1, _, _⟩ := DataW.trod_int Tryd.underlying3 (show DataW.trod enc Tryd.prog W 0 (fun _ => true) true k 3 [c4] = some y1 from j1)
  obtain ⟨a2, f2, _, _⟩ := DataW.trod_int Tryd.underlying3 (show DataW.trod enc Tryd.prog W 0 (fun _ => true) true k 3 [c5] = some y2 from j2)
  obtain ⟨a3, f3, _, _⟩ := DataW.trod_int Tryd.underlying3 (show DataW.trod enc Tryd.prog W 0 (fun _ => true) true k 3 [c6] = some y3 from j3)
  obtain ⟨a4, f4, _, _⟩ := DataW.trod_int Tryd.underlying3 (show DataW.trod enc Tryd.prog W 0 (fun _ => true) true k 3 [c7] = some y4 from j4)
  simp only [List.cons.injEq, and_true] at f0 f1 f2 f3 f4
  subst f0 f1 f2 f3 f4
  exact ⟨m, fun p => if p = 0 then a0 else if p = 1 then a1 else if p = 2 then a2 else if p = 3 then a3 else a4, rfl⟩
end

def laid2 : List (String × DataW Unit) := [("math/bits.deBruijn32tab", Rows.laid_math_bits_deBruijn32tab), ("math/bits.deBruijn64tab", Rows.laid_math_bits_deBruijn64tab)]
theorem g32 : Tryd.prog.globalNamed "math/bits.deBruijn32tab" = some 0 := by kernel_rfl
theorem g64 : Tryd.prog.globalNamed "math/bits.deBruijn64tab" = some 1 := by kernel_rfl
theorem t32 : (Tryd.prog.globals[0]?).map (·.type) = some 108 := by kernel_rfl
theorem t64 : (Tryd.prog.globals[1]?).map (·.type) = some 109 := by kernel_rfl
theorem laid64_eq {H : Type} : (Rows.laid_math_bits_deBruijn64tab : DataW H) = .agg (Lib.deBruijn64tab.map fun n : Nat => .lit (.int .u8 (n : Int))) := rfl

/-- What the row's condition gives: the table holds what the text lays. -/
theorem tab_of_laid {W : World} (hL : laidMetH Tryd.prog laid2 W) : Tab W := by
  rw [MakeChecks.laidMetH_plain _ _ _ (by kernel_rfl)] at hL
  obtain ⟨ps, ⟨g0, t0, cs0, f0, p0, q0, hg0, ht0, hv0, hd0, ⟨g1, t1, cs1, f1, p1, q1, hg1, ht1, hv1, hd1, _, _⟩, _⟩, _, _⟩ := hL
  obtain rfl := Option.some.inj (g64.symm.trans hg1)
  obtain rfl := Option.some.inj (t64.symm.trans ht1)
  obtain ⟨ys, m', rfl, hy, hlen', hyl, hel'⟩ := DataW.trod_array Tryd.underlying109 hd1
  rw [cells_byte] at hel'
  have hys : ys.map (·.1) = Lib.deBruijn64tab.map fun n : Nat => .lit (.int .u8 (n : Int)) := by
    have := congrArg Prod.fst hy
    rw [laid64_eq] at this
    simp only [DataW.agg.injEq] at this
    exact this.symm
  have cell1 : ∀ k u, cs1.toList[k]? = some u → W.cell? ⟨1, k, none⟩ = some u := by
    intro k u hk
    rw [World.var?_cell hg1 hv1 k]
    simpa using hk
  have hcd : ∀ j : Nat, j < 64 → W.cell? ⟨1, j, none⟩ = some (.int .u8 (Lib.deBruijn64tab.getD j 0)) := by
    intro k hk
    have he := hel' k hk
    have hlt : k < ys.length := by omega
    have hg : ys[k]? = some ys[k] := List.getElem?_eq_getElem hlt
    rw [hg] at he
    have hm : (ys.map (·.1))[k]? = some ys[k].1 := by rw [List.getElem?_map, hg]; rfl
    rw [hys, List.getElem?_map] at hm
    have hkl : k < Lib.deBruijn64tab.length := hk
    rw [List.getElem?_eq_getElem hkl] at hm
    have hdat : ys[k].1 = .lit (.int .u8 ((Lib.deBruijn64tab[k] : Nat) : Int)) := (Option.some.inj hm).symm
    have hd : ∃ u, (cs1.toList.drop (k * 1)).take 1 = [u] := by
      have : k < cs1.toList.length := by
        have := hlen'
        rw [cells_tab] at this
        omega
      refine ⟨cs1.toList[k], ?_⟩
      rw [Nat.mul_one, List.drop_eq_getElem_cons this]
      rfl
    obtain ⟨u, hu⟩ := hd
    rw [hu] at he
    obtain ⟨n, e1, e2, _⟩ := DataW.trod_int Tryd.underlying5 he
    simp only [List.cons.injEq, and_true] at e1
    subst e1
    rw [e2] at hdat
    have hn : n = ((Lib.deBruijn64tab[k] : Nat) : Int) := by
      simp at hdat; exact hdat
    have hc : cs1.toList[k]? = some (.int .u8 n) := by
      have : ((cs1.toList.drop (k * 1)).take 1)[0]? = some (.int .u8 n) := by rw [hu]; rfl
      rw [Nat.mul_one, List.getElem?_take_of_lt (by omega), List.getElem?_drop] at this
      exact this
    rw [cell1 k _ hc, hn, List.getD_eq_getElem?_getD, List.getElem?_eq_getElem hkl]
    rfl
  refine ⟨?_, hcd⟩
  have := World.block_lt_of_cell? W _ (hcd 0 (by omega))
  have h1 : 1 < W.heap.size := by simpa using this
  omega
theorem door_met (os : Os) (args : Array Value) : laidMetH Tryd.prog laid2 ((World.doorLaid Tryd.prog 400 os).forCall (fun _ _ => 0) ⟨#[], args, []⟩).memory :=
  laidMetH_of_parts3 (fuel := 8) (laidMet_of_run' 8 (by kernel_rfl) (by kernel_rfl)) (by kernel_rfl) (by kernel_rfl)
end Go.Proofs.YtmlgbaogkbfklaaDoor
