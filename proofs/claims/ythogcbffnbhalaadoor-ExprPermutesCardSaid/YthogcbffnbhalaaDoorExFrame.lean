/- How arguments read as expressions and scenes, and what the listed tables give. -/
import Derived.Test.YthogcbffnbhalaaDoorRows
import Derived.Test.YthogcbffnbhalaaDoorExTop
import Derived.WalkKit
import Derived.ProofKit
import Derived.OpenShut
import Derived.ShutString
import Derived.ChangeOld
import Derived.Below
import Derived.Lib.SmallJoins
import Derived.LaidMore
import Derived.Deep.Slices
import Derived.Stop.Joined
namespace Go.Proofs.YthogcbffnbhalaaDoor
set_option linter.unusedVariables false
set_option maxRecDepth 100000
open Go.ChangeShapes Go.WideShapes Go.ChangeAt Go.RowKit

theorem ownGodebug : ownKnob Tryd.prog.godebug = none := by kernel_rfl
theorem laidOutAll : laidOutB Tryd.prog = true := by kernel_rfl
theorem cells_int' : Tryd.prog.cellsOf 3 = 1 := by kernel_rfl
theorem cells_expr : Tryd.prog.cellsOf 24 = 3 := by kernel_rfl
theorem cells_exprs : Tryd.prog.cellsOf 22 = 1 := by kernel_rfl
theorem cells_ints : Tryd.prog.cellsOf 25 = 1 := by kernel_rfl
theorem cells_five : Tryd.prog.cellsOf 26 = 5 := by kernel_rfl
theorem cells_scene : Tryd.prog.cellsOf 28 = 9 := by kernel_rfl
theorem cells_row : Tryd.prog.cellsOf 61 = 3 := by kernel_rfl
theorem cells_rows : Tryd.prog.cellsOf 62 = 48 := by kernel_rfl
theorem cells_two : Tryd.prog.cellsOf 75 = 2 := by kernel_rfl
theorem cells_duals : Tryd.prog.cellsOf 76 = 6 := by kernel_rfl

section
variable {H : Type} {enc : TypeId × Value → H} {W : World}

theorem read_lt {t : TypeId} {v : Value} {d : DataW H} {p : List MemPlace}
    (h : DataW.Trod enc Tryd.prog W 0 (fun _ => true) true t v d p) : ∀ x ∈ p, x.block < W.heap.size := by
  obtain ⟨m, hm⟩ := h; exact DataW.trod_lt m _ _ _ hm

theorem spot_none {a : Addr} {u : Value} (c0 : W.cell? a = some u) : a.spot = none := by
  unfold World.cell? at c0
  split at c0
  · split at c0
    · cases c0
    · rename_i hs; simpa using hs
  · cases c0
theorem add_zero' (a : Addr) : a.add 0 = a := by simp [Addr.add]
theorem add_adr {a : Addr} (h : a.spot = none) (j : Nat) : a.add j = adr (some a) j := by
  unfold Addr.add adr
  split
  · rename_i hj; subst hj; cases a; simp at h; simp [h]
  · rfl

theorem ints_of_trod {fuel : Nat} {cs : List Value} {y : DataW H × List MemPlace} (hf : DataW.trod enc Tryd.prog W 0 (fun _ => true) true fuel 25 cs = some y) : ∃ v l, cs = [v] ∧ Ints (fun _ => True) W v l := by
  rcases open_ints Tryd.underlying25 Tryd.underlying3 (by kernel_rfl) hf with ⟨hcs, _⟩ | ⟨x, l, c, zs, hcs, _, hl, hm, hz, _, hcell, hwz⟩
  · exact ⟨_, [], hcs, Ints.nil _ _⟩
  · have hz' : zs.length = c := by simpa using hz
    have hlen : (zs.take l).length = l := by simp; omega
    refine ⟨_, zs.take l, hcs, ?_⟩
    have hw : ∀ y ∈ zs.take l, WF y := fun y hy => WF.of_lit (hwz y (List.mem_of_mem_take hy))
    by_cases h0 : zs.length = 0
    · have hl0 : l = 0 := by omega
      have hc0 : c = 0 := by omega
      subst hl0 hc0
      exact ⟨some x, 0, by simp, .inl ⟨by simp, rfl⟩, by simp, by simp [maxLen], fun j hj => by simp at hj, hw⟩
    · have c0 := hcell 0 (by omega)
      rw [add_zero'] at c0
      have hx := spot_none c0
      have hb : x.block < W.heap.size := World.block_lt_of_cell? W _ c0
      refine ⟨some x, c, by rw [hlen], .inr ⟨x.block, x.off, by cases x; simp at hx; simp [hx], hb, trivial⟩, by omega, hm, fun j hj => ?_, hw⟩
      have := hcell j (by omega)
      rw [add_adr hx] at this
      rw [this]
      congr 2
      rw [hlen] at hj
      simp [nth, hj]

theorem choose_list {Q : Nat → Ex → Prop} : ∀ n : Nat, (∀ i, i < n → ∃ e, Q i e) → ∃ l : List Ex, l.length = n ∧ ∀ i, i < n → Q i (nthE l i) := by
  intro n
  induction n with
  | zero => intro _; exact ⟨[], rfl, fun i hi => by omega⟩
  | succ n ih =>
    intro h
    obtain ⟨l, hl, hq⟩ := ih fun i hi => h i (by omega)
    obtain ⟨e, he⟩ := h n (by omega)
    refine ⟨l ++ [e], by simp [hl], fun i hi => ?_⟩
    by_cases hin : i < n
    · rw [nthE_snoc_lt (by omega)]; exact hq i hin
    · obtain rfl : i = l.length := by omega
      rw [nthE_snoc_eq, hl]; exact he

theorem get3 {α : Type} {l : List α} (h : l.length = 3) : ∃ a b c, l = [a, b, c] := by
  match l, h with
  | [a, b, c], _ => exact ⟨a, b, c, rfl⟩

theorem expr_of_trod : ∀ (fuel : Nat) (cs : List Value) (y : DataW H × List MemPlace), DataW.trod enc Tryd.prog W 0 (fun _ => true) true fuel 24 cs = some y → ∃ e, ExprV (fun _ => True) W e (.agg cs.toArray) := by
  intro fuel
  induction fuel using Nat.strongRecOn with
  | ind fuel ih =>
    intro cs y h
    obtain ⟨xs, n, rfl, hx, hlen, hxl, hf⟩ := DataW.trod_struct Tryd.underlying24 h
    rw [cells_expr] at hlen
    obtain ⟨c0, c1, c2, rfl⟩ := get3 hlen
    obtain ⟨x0, x1, x2, rfl⟩ := get3 (show xs.length = 3 from hxl)
    have h0 : DataW.trod enc Tryd.prog W 0 (fun _ => true) true n 3 (([c0, c1, c2].drop 0).take (Tryd.prog.cellsOf 3)) = some x0 := hf 0 _ rfl
    have h1 : DataW.trod enc Tryd.prog W 0 (fun _ => true) true n 3 (([c0, c1, c2].drop 1).take (Tryd.prog.cellsOf 3)) = some x1 := hf 1 _ rfl
    have h2 : DataW.trod enc Tryd.prog W 0 (fun _ => true) true n 22 (([c0, c1, c2].drop 2).take (Tryd.prog.cellsOf 22)) = some x2 := hf 2 _ rfl
    rw [cells_int'] at h0 h1
    rw [cells_exprs] at h2
    obtain ⟨op, e0, _, w0⟩ := DataW.trod_int Tryd.underlying3 (show DataW.trod enc Tryd.prog W 0 (fun _ => true) true n 3 [c0] = some x0 from h0)
    obtain ⟨num, e1, _, w1⟩ := DataW.trod_int Tryd.underlying3 (show DataW.trod enc Tryd.prog W 0 (fun _ => true) true n 3 [c1] = some x1 from h1)
    simp only [List.cons.injEq, and_true] at e0 e1
    subst e0 e1
    rcases DataW.trod_slice Tryd.underlying22 (show DataW.trod enc Tryd.prog W 0 (fun _ => true) true n 22 [c2] = some x2 from h2) with ⟨e2, _⟩ | ⟨a, len, cap, elems, rest, m, rfl, e2, _, _, hl, hm, hel, hi, hsp, _⟩
    · simp only [List.cons.injEq, and_true] at e2
      subst e2
      exact ⟨.node op num [], ExprV.nilargs _ _ (WF.of_lit w0) (WF.of_lit w1)⟩
    · simp only [List.cons.injEq, and_true] at e2
      subst e2
      rw [cells_expr] at hi hsp
      by_cases hc0 : cap = 0
      · have hl0 : len = 0 := by omega
        subst hc0 hl0
        exact ⟨.node op num [], .mk (xs := []) (us := fun _ => undef) (WF.of_lit w0) (WF.of_lit w1) (.inl ⟨rfl, rfl⟩) (Nat.le_refl _) (by simp [maxLen]) (fun j hj => by simp at hj) (fun j hj => by simp at hj)⟩
      · have hcell0 : ∃ u, W.cell? a = some u := by
          have key : ∀ cs' : List Value, W.cells? 0 (a.add (0 * 3)) 3 = some cs' → ∃ u, W.cell? a = some u := by
            intro cs' hcs
            obtain ⟨_, hl3, hat⟩ := World.cells?_some hcs
            have := hat 0 (by omega)
            rw [add_zero', Nat.zero_mul, add_zero'] at this
            exact ⟨cs'[0]'(by omega), by rw [this]; exact List.getElem?_eq_getElem (by omega)⟩
          by_cases hl0 : len = 0
          · have h3 := (hsp rfl).2 0 (by omega)
            have hrl := (hsp rfl).1
            rw [hl0] at h3
            cases hq : W.cells? 0 (a.add ((0 + 0) * 3)) 3 with
            | none =>
              rw [hq] at h3
              have : rest[0]? = some (rest[0]'(by omega)) := List.getElem?_eq_getElem (by omega)
              rw [this] at h3
              cases h3
            | some cs' => exact key cs' hq
          · have h3 := hi 0 (by omega)
            cases hq : W.cells? 0 (a.add (0 * 3)) 3 with
            | none =>
              rw [hq] at h3
              have : elems[0]? = some (elems[0]'(by omega)) := List.getElem?_eq_getElem (by omega)
              rw [this] at h3
              cases h3
            | some cs' => exact key cs' hq
        obtain ⟨u, hu⟩ := hcell0
        have hs := spot_none hu
        have hb : a.block < W.heap.size := World.block_lt_of_cell? W _ hu
        obtain ⟨es, hes, hq⟩ := choose_list (Q := fun i e => ∃ z0 z1 z2, W.cell? (adr (some a) (i * 3)) = some z0 ∧ W.cell? (adr (some a) (i * 3 + 1)) = some z1 ∧ W.cell? (adr (some a) (i * 3 + 2)) = some z2 ∧ ExprV (fun _ => True) W e (.agg #[z0, z1, z2])) len (by
          intro i hil
          have h3 := hi i hil
          have : elems[i]? = some (elems[i]'(by omega)) := List.getElem?_eq_getElem (by omega)
          rw [this] at h3
          cases hq : W.cells? 0 (a.add (i * 3)) 3 with
          | none => rw [hq] at h3; cases h3
          | some cs' =>
            rw [hq] at h3
            obtain ⟨_, hl3, hat⟩ := World.cells?_some hq
            obtain ⟨z0, z1, z2, rfl⟩ := get3 hl3
            obtain ⟨e, he⟩ := ih m (by omega) _ _ h3
            have a0 := hat 0 (by omega)
            have a1 := hat 1 (by omega)
            have a2 := hat 2 (by omega)
            rw [Go.Deep.add_add, add_adr hs] at a0 a1 a2
            exact ⟨e, z0, z1, z2, a0, a1, a2, he⟩)
        subst hes
        refine ⟨.node op num es, .mk (us := fun j => .agg #[(W.cell? (adr (some a) (j * 3))).getD undef, (W.cell? (adr (some a) (j * 3 + 1))).getD undef, (W.cell? (adr (some a) (j * 3 + 2))).getD undef]) (WF.of_lit w0) (WF.of_lit w1) (.inr ⟨a.block, a.off, by cases a; simp at hs; simp [hs], hb, trivial⟩) hl hm (fun j hj => ?_) (fun j hj => ?_)⟩
        · obtain ⟨z0, z1, z2, a0, a1, a2, _⟩ := hq j hj
          refine ⟨z0, z1, z2, by rw [a0, a1, a2]; rfl, a0, ?_, ?_⟩
          · rw [adr_off]; exact a1
          · rw [adr_off]; exact a2
        · obtain ⟨z0, z1, z2, a0, a1, a2, he⟩ := hq j hj
          show ExprV _ W _ (.agg #[(W.cell? (adr (some a) (j * 3))).getD undef, (W.cell? (adr (some a) (j * 3 + 1))).getD undef, (W.cell? (adr (some a) (j * 3 + 2))).getD undef])
          rw [a0, a1, a2]
          exact he

theorem read_expr {base : Nat} {v : Value} {d : DataW H} {p : List MemPlace} (hv : Value.okWide Tryd.prog W .any base 24 v)
    (h : DataW.Trod enc Tryd.prog W 0 (fun _ => true) true 24 v d p) : ∃ e, ExprV (fun _ => True) W e v := by
  obtain ⟨cs, rfl, _⟩ := okWide_struct Tryd.underlying24 hv
  obtain ⟨fuel, hf⟩ := h
  exact expr_of_trod fuel cs.toList _ hf

theorem read_int {base : Nat} {v : Value} {d : DataW H} {p : List MemPlace} (hv : Value.okWide Tryd.prog W .any base 3 v)
    (h : DataW.Trod enc Tryd.prog W 0 (fun _ => true) true 3 v d p) : ∃ x, v = .int .i64 x ∧ WF x := by
  obtain ⟨x, rfl, rfl, rfl, wx⟩ := open_int Tryd.underlying3 hv h
  exact ⟨x, rfl, WF.of_lit wx⟩

theorem get5 {α : Type} {l : List α} (h : l.length = 5) : ∃ a b c d e, l = [a, b, c, d, e] := by
  match l, h with
  | [a, b, c, d, e], _ => exact ⟨a, b, c, d, e, rfl⟩
theorem get9 {α : Type} {l : List α} (h : l.length = 9) : ∃ a b c d e f g i j, l = [a, b, c, d, e, f, g, i, j] := by
  match l, h with
  | [a, b, c, d, e, f, g, i, j], _ => exact ⟨a, b, c, d, e, f, g, i, j, rfl⟩
theorem read_scene {base : Nat} {v : Value} {d : DataW H} {p : List MemPlace} (hv : Value.okWide Tryd.prog W .any base 28 v)
    (h : DataW.Trod enc Tryd.prog W 0 (fun _ => true) true 28 v d p) : ∃ s, ScV (fun _ => True) W s v := by
  obtain ⟨cs, rfl, _⟩ := okWide_struct Tryd.underlying28 hv
  obtain ⟨fuel, hf⟩ := h
  obtain ⟨xs, n, rfl, hx, hlen, hxl, hg⟩ := DataW.trod_struct Tryd.underlying28 hf
  rw [cells_scene] at hlen
  obtain ⟨l⟩ := cs
  obtain ⟨c0, c1, c2, c3, c4, c5, c6, c7, c8, hl9⟩ := get9 hlen
  have hl9' : l = [c0, c1, c2, c3, c4, c5, c6, c7, c8] := hl9
  subst hl9'
  obtain ⟨x0, x1, x2, x3, x4, rfl⟩ := get5 (show xs.length = 5 from hxl)
  have h0 : DataW.trod enc Tryd.prog W 0 (fun _ => true) true n 3 (([c0, c1, c2, c3, c4, c5, c6, c7, c8].drop 0).take (Tryd.prog.cellsOf 3)) = some x0 := hg 0 _ rfl
  have h1 : DataW.trod enc Tryd.prog W 0 (fun _ => true) true n 25 (([c0, c1, c2, c3, c4, c5, c6, c7, c8].drop 1).take (Tryd.prog.cellsOf 25)) = some x1 := hg 1 _ rfl
  have h2 : DataW.trod enc Tryd.prog W 0 (fun _ => true) true n 25 (([c0, c1, c2, c3, c4, c5, c6, c7, c8].drop 2).take (Tryd.prog.cellsOf 25)) = some x2 := hg 2 _ rfl
  have h3 : DataW.trod enc Tryd.prog W 0 (fun _ => true) true n 26 (([c0, c1, c2, c3, c4, c5, c6, c7, c8].drop 3).take (Tryd.prog.cellsOf 26)) = some x3 := hg 3 _ rfl
  have h4 : DataW.trod enc Tryd.prog W 0 (fun _ => true) true n 25 (([c0, c1, c2, c3, c4, c5, c6, c7, c8].drop 8).take (Tryd.prog.cellsOf 25)) = some x4 := hg 4 _ rfl
  rw [cells_int'] at h0
  rw [cells_ints] at h1 h2 h4
  rw [cells_five] at h3
  obtain ⟨m, e0, _, w0⟩ := DataW.trod_int Tryd.underlying3 (show DataW.trod enc Tryd.prog W 0 (fun _ => true) true n 3 [c0] = some x0 from h0)
  obtain ⟨v1, l1, e1, i1⟩ := ints_of_trod (show DataW.trod enc Tryd.prog W 0 (fun _ => true) true n 25 [c1] = some x1 from h1)
  obtain ⟨v2, l2, e2, i2⟩ := ints_of_trod (show DataW.trod enc Tryd.prog W 0 (fun _ => true) true n 25 [c2] = some x2 from h2)
  obtain ⟨v4, l4, e4, i4⟩ := ints_of_trod (show DataW.trod enc Tryd.prog W 0 (fun _ => true) true n 25 [c8] = some x4 from h4)
  simp only [List.cons.injEq, and_true] at e0 e1 e2 e4
  subst e0 e1 e2 e4
  obtain ⟨ys, k, rfl, hy, _, hyl, hj⟩ := DataW.trod_array Tryd.underlying26 (show DataW.trod enc Tryd.prog W 0 (fun _ => true) true n 26 [c3, c4, c5, c6, c7] = some x3 from h3)
  obtain ⟨y0, y1, y2, y3, y4, rfl⟩ := get5 hyl
  have j0 := hj 0 (by omega)
  have j1 := hj 1 (by omega)
  have j2 := hj 2 (by omega)
  have j3 := hj 3 (by omega)
  have j4 := hj 4 (by omega)
  rw [cells_int'] at j0 j1 j2 j3 j4
  obtain ⟨a0, f0, _, _⟩ := DataW.trod_int Tryd.underlying3 (show DataW.trod enc Tryd.prog W 0 (fun _ => true) true k 3 [c3] = some y0 from j0)
  obtain ⟨a1, f1, _, _⟩ := DataW.trod_int Tryd.underlying3 (show DataW.trod enc Tryd.prog W 0 (fun _ => true) true k 3 [c4] = some y1 from j1)
  obtain ⟨a2, f2, _, _⟩ := DataW.trod_int Tryd.underlying3 (show DataW.trod enc Tryd.prog W 0 (fun _ => true) true k 3 [c5] = some y2 from j2)
  obtain ⟨a3, f3, _, _⟩ := DataW.trod_int Tryd.underlying3 (show DataW.trod enc Tryd.prog W 0 (fun _ => true) true k 3 [c6] = some y3 from j3)
  obtain ⟨a4, f4, _, _⟩ := DataW.trod_int Tryd.underlying3 (show DataW.trod enc Tryd.prog W 0 (fun _ => true) true k 3 [c7] = some y4 from j4)
  simp only [List.cons.injEq, and_true] at f0 f1 f2 f3 f4
  subst f0 f1 f2 f3 f4
  exact ⟨⟨m, l1, l2, [a0, a1, a2, a3, a4], l4⟩, _, _, _, a0, a1, a2, a3, a4, rfl, rfl, i1, i2, i4⟩
end

def laid2 : List (String × DataW Unit) := [("roundtable/expr.rows", Rows.laid_roundtable_expr_rows), ("roundtable/expr.duals", Rows.laid_roundtable_expr_duals)]
theorem gRows : Tryd.prog.globalNamed "roundtable/expr.rows" = some 0 := by kernel_rfl
theorem gDuals : Tryd.prog.globalNamed "roundtable/expr.duals" = some 1 := by kernel_rfl
theorem tRows : (Tryd.prog.globals[0]?).map (·.type) = some 62 := by kernel_rfl
theorem tDuals : (Tryd.prog.globals[1]?).map (·.type) = some 76 := by kernel_rfl

section
variable {H : Type} {enc : TypeId × Value → H} {W : World}
/-- A row of the table: its three numbers. -/
theorem row_of_trod {fuel : Nat} {cs : List Value} {y : DataW H × List MemPlace} {a b c : Int} (h : DataW.trod enc Tryd.prog W 0 (fun _ => true) false fuel 61 cs = some y) (hy : y.1 = .agg [.lit (.int .i64 a), .lit (.int .i64 b), .lit (.int .i64 c)]) : cs = [.int .i64 a, .int .i64 b, .int .i64 c] := by
  obtain ⟨xs, n, rfl, hx, hlen, hxl, hf⟩ := DataW.trod_struct Tryd.underlying61 h
  rw [cells_row] at hlen
  obtain ⟨c0, c1, c2, rfl⟩ := get3 hlen
  obtain ⟨x0, x1, x2, rfl⟩ := get3 (show xs.length = 3 from hxl)
  have h0 : DataW.trod enc Tryd.prog W 0 (fun _ => true) false n 3 (([c0, c1, c2].drop 0).take (Tryd.prog.cellsOf 3)) = some x0 := hf 0 _ rfl
  have h1 : DataW.trod enc Tryd.prog W 0 (fun _ => true) false n 3 (([c0, c1, c2].drop 1).take (Tryd.prog.cellsOf 3)) = some x1 := hf 1 _ rfl
  have h2 : DataW.trod enc Tryd.prog W 0 (fun _ => true) false n 3 (([c0, c1, c2].drop 2).take (Tryd.prog.cellsOf 3)) = some x2 := hf 2 _ rfl
  rw [cells_int'] at h0 h1 h2
  obtain ⟨n0, e0, d0, _⟩ := DataW.trod_int Tryd.underlying3 (show DataW.trod enc Tryd.prog W 0 (fun _ => true) false n 3 [c0] = some x0 from h0)
  obtain ⟨n1, e1, d1, _⟩ := DataW.trod_int Tryd.underlying3 (show DataW.trod enc Tryd.prog W 0 (fun _ => true) false n 3 [c1] = some x1 from h1)
  obtain ⟨n2, e2, d2, _⟩ := DataW.trod_int Tryd.underlying3 (show DataW.trod enc Tryd.prog W 0 (fun _ => true) false n 3 [c2] = some x2 from h2)
  simp only [List.cons.injEq, and_true] at e0 e1 e2
  subst e0 e1 e2 d0 d1 d2 hx
  simp at hy
  obtain ⟨rfl, rfl, rfl⟩ := hy
  rfl
theorem two_of_trod {fuel : Nat} {cs : List Value} {y : DataW H × List MemPlace} {a b : Int} (h : DataW.trod enc Tryd.prog W 0 (fun _ => true) false fuel 75 cs = some y) (hy : y.1 = .agg [.lit (.int .i64 a), .lit (.int .i64 b)]) : cs = [.int .i64 a, .int .i64 b] := by
  obtain ⟨xs, n, rfl, hx, hlen, hxl, hf⟩ := DataW.trod_array Tryd.underlying75 h
  rw [cells_two] at hlen
  match cs, hlen, xs, hxl, hf, hx with
  | [c0, c1], _, [x0, x1], _, hf, hx =>
    have h0 := hf 0 (by omega)
    have h1 := hf 1 (by omega)
    rw [cells_int'] at h0 h1
    obtain ⟨n0, e0, d0, _⟩ := DataW.trod_int Tryd.underlying3 (show DataW.trod enc Tryd.prog W 0 (fun _ => true) false n 3 [c0] = some x0 from h0)
    obtain ⟨n1, e1, d1, _⟩ := DataW.trod_int Tryd.underlying3 (show DataW.trod enc Tryd.prog W 0 (fun _ => true) false n 3 [c1] = some x1 from h1)
    simp only [List.cons.injEq, and_true] at e0 e1
    subst e0 e1 d0 d1 hx
    simp at hy
    obtain ⟨rfl, rfl⟩ := hy
    rfl
end
theorem get_piece {l : List Value} {i n : Nat} {p : List Value} (h : (l.drop i).take n = p) {j : Nat} {u : Value} (hj : p[j]? = some u) : l[i + j]? = some u := by
  rw [← h] at hj
  have hlt : j < n := by
    by_cases hjn : j < n
    · exact hjn
    · rw [List.getElem?_eq_none (by simp; omega)] at hj; cases hj
  rw [List.getElem?_take_of_lt hlt, List.getElem?_drop] at hj
  exact hj

/-- What the row's condition gives: the tables hold what the text lays. -/
theorem tab_of_laid {W : World} (hL : laidMetH Tryd.prog laid2 W) : Tab W := by
  rw [MakeChecks.laidMetH_plain _ _ _ (by kernel_rfl)] at hL
  obtain ⟨ps, ⟨g0, t0, cs0, f0, p0, q0, hg0, ht0, hv0, hd0, ⟨g1, t1, cs1, f1, p1, q1, hg1, ht1, hv1, hd1, _, _⟩, _⟩, _, _⟩ := hL
  obtain rfl := Option.some.inj (gRows.symm.trans hg0)
  obtain rfl := Option.some.inj (gDuals.symm.trans hg1)
  obtain rfl := Option.some.inj (tRows.symm.trans ht0)
  obtain rfl := Option.some.inj (tDuals.symm.trans ht1)
  obtain ⟨xs, m, rfl, hx, hlen, hxl, hel⟩ := DataW.trod_array Tryd.underlying62 hd0
  obtain ⟨ys, m', rfl, hy, hlen', hyl, hel'⟩ := DataW.trod_array Tryd.underlying76 hd1
  rw [cells_row] at hel
  rw [cells_two] at hel'
  have hxs : xs.map (·.1) = [.agg [.lit (.int .i64 0), .lit (.int .i64 0), .lit (.int .i64 0)], .agg [.lit (.int .i64 0), .lit (.int .i64 0), .lit (.int .i64 0)], .agg [.lit (.int .i64 0), .lit (.int .i64 1), .lit (.int .i64 0)], .agg [.lit (.int .i64 0), .lit (.int .i64 1), .lit (.int .i64 0)], .agg [.lit (.int .i64 1), .lit (.int .i64 2), .lit (.int .i64 0)], .agg [.lit (.int .i64 0), .lit (.int .i64 2), .lit (.int .i64 0)], .agg [.lit (.int .i64 0), .lit (.int .i64 2), .lit (.int .i64 0)], .agg [.lit (.int .i64 1), .lit (.int .i64 2), .lit (.int .i64 0)], .agg [.lit (.int .i64 1), .lit (.int .i64 2), .lit (.int .i64 0)], .agg [.lit (.int .i64 1), .lit (.int .i64 2), .lit (.int .i64 0)], .agg [.lit (.int .i64 1), .lit (.int .i64 2), .lit (.int .i64 1)], .agg [.lit (.int .i64 1), .lit (.int .i64 2), .lit (.int .i64 1)], .agg [.lit (.int .i64 1), .lit (.int .i64 1), .lit (.int .i64 1)], .agg [.lit (.int .i64 1), .lit (.int .i64 1), .lit (.int .i64 1)], .agg [.lit (.int .i64 1), .lit (.int .i64 1), .lit (.int .i64 1)], .agg [.lit (.int .i64 0), .lit (.int .i64 1), .lit (.int .i64 1)]] := by
    have := congrArg Prod.fst hx
    simp only [Rows.laid_roundtable_expr_rows, DataW.agg.injEq] at this
    exact this.symm
  have hys : ys.map (·.1) = [.agg [.lit (.int .i64 8), .lit (.int .i64 9)], .agg [.lit (.int .i64 10), .lit (.int .i64 11)], .agg [.lit (.int .i64 13), .lit (.int .i64 14)]] := by
    have := congrArg Prod.fst hy
    simp only [Rows.laid_roundtable_expr_duals, DataW.agg.injEq] at this
    exact this.symm
  have cell0 : ∀ k u, cs0.toList[k]? = some u → W.cell? ⟨0, k, none⟩ = some u := by
    intro k u hk
    rw [World.var?_cell hg0 hv0 k]
    simpa using hk
  have cell1 : ∀ k u, cs1.toList[k]? = some u → W.cell? ⟨1, k, none⟩ = some u := by
    intro k u hk
    rw [World.var?_cell hg1 hv1 k]
    simpa using hk
  have hrow : ∀ op : Int, 0 ≤ op → op ≤ 15 → (cs0.toList.drop (op.toNat * 3)).take 3 = [.int .i64 (kindOf op), .int .i64 (arity op), .int .i64 (argKind op)] := by
    intro op h0 h1
    have he := hel op.toNat (by omega)
    have hlt : op.toNat < xs.length := by omega
    have hg : xs[op.toNat]? = some xs[op.toNat] := List.getElem?_eq_getElem hlt
    rw [hg] at he
    refine row_of_trod he ?_
    have hm : (xs.map (·.1))[op.toNat]? = some xs[op.toNat].1 := by rw [List.getElem?_map, hg]; rfl
    rw [hxs] at hm
    rcases known_cases h0 h1 with rfl | rfl | rfl | rfl | rfl | rfl | rfl | rfl | rfl | rfl | rfl | rfl | rfl | rfl | rfl | rfl
    all_goals exact (Option.some.inj hm).symm
  have hdual : ∀ k : Nat, k < 3 → ∃ a b, (cs1.toList.drop (k * 2)).take 2 = [.int .i64 a, .int .i64 b] ∧ a = nth [8, 9, 10, 11, 13, 14] (k * 2) ∧ b = nth [8, 9, 10, 11, 13, 14] (k * 2 + 1) := by
    intro k hk
    have he := hel' k hk
    have hlt : k < ys.length := by omega
    have hg : ys[k]? = some ys[k] := List.getElem?_eq_getElem hlt
    rw [hg] at he
    have hm : (ys.map (·.1))[k]? = some ys[k].1 := by rw [List.getElem?_map, hg]; rfl
    rw [hys] at hm
    have hk3 : k = 0 ∨ k = 1 ∨ k = 2 := by omega
    rcases hk3 with rfl | rfl | rfl
    · exact ⟨8, 9, two_of_trod he (Option.some.inj hm).symm, rfl, rfl⟩
    · exact ⟨10, 11, two_of_trod he (Option.some.inj hm).symm, rfl, rfl⟩
    · exact ⟨13, 14, two_of_trod he (Option.some.inj hm).symm, rfl, rfl⟩
  have hcd : ∀ j : Nat, j < 6 → W.cell? ⟨1, j, none⟩ = some (.int .i64 (nth [8, 9, 10, 11, 13, 14] j)) := by
    intro j hj
    obtain ⟨a, b, hp, ha, hb⟩ := hdual (j / 2) (by omega)
    by_cases he : j % 2 = 0
    · have := cell1 _ _ (get_piece hp (j := 0) rfl)
      have e : j / 2 * 2 + 0 = j := by omega
      rw [e] at this
      rw [this, ha]
      have e2 : j / 2 * 2 = j := by omega
      rw [e2]
    · have := cell1 _ _ (get_piece hp (j := 1) rfl)
      have e : j / 2 * 2 + 1 = j := by omega
      rw [e] at this hb
      rw [this, hb]
  refine ⟨?_, fun op h0 h1 => cell0 _ _ (get_piece (hrow op h0 h1) (j := 0) rfl), fun op h0 h1 => cell0 _ _ (get_piece (hrow op h0 h1) (j := 1) rfl), fun op h0 h1 => cell0 _ _ (get_piece (hrow op h0 h1) (j := 2) rfl), hcd⟩
  have := World.block_lt_of_cell? W _ (hcd 0 (by omega))
  have h1 : 1 < W.heap.size := by simpa using this
  omega
theorem door_met (os : Os) (args : Array Value) : laidMetH Tryd.prog laid2 ((World.doorLaid Tryd.prog 400 os).forCall (fun _ _ => 0) ⟨#[], args, []⟩).memory :=
  laidMetH_of_parts3 (fuel := 8) (laidMet_of_run' 8 (by kernel_rfl) (by kernel_rfl)) (by kernel_rfl) (by kernel_rfl)
end Go.Proofs.YthogcbffnbhalaaDoor

