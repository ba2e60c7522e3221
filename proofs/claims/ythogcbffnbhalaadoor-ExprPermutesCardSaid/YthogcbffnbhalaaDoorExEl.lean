/- The elements of an expression's list, one by one. -/
import Derived.Test.YthogcbffnbhalaaDoorExVal1
namespace Go.Proofs.YthogcbffnbhalaaDoor
set_option linter.unusedVariables false
open Go.RowKit

/-- Element k of a list of expressions that lies at a: its place, its cells, what it reads as. -/
structure El (S : Nat → Prop) (W : World) (a : Option Addr) (n cap : Nat) (i : Int) (x : Ex) (b off : Nat) (a' : Option Addr) (c' : Nat) : Prop where
  idx : ∀ W', (Instr.indexAt 22 (.slice a n cap) (.int .i64 i)).run Tryd.prog W' = .ok (.pointer (some ⟨b, off, none⟩)) W'
  c0 : W.cell? ⟨b, off, none⟩ = some (.int .i64 x.op)
  c1 : W.cell? ⟨b, off + 1, none⟩ = some (.int .i64 x.num)
  c2 : W.cell? ⟨b, off + 2, none⟩ = some (.slice a' x.args.length c')
  ex : ExprV S W x (.agg #[.int .i64 x.op, .int .i64 x.num, .slice a' x.args.length c'])
theorem El.ext {S : Nat → Prop} {W W1 : World} {a : Option Addr} {n cap : Nat} {i : Int} {x : Ex} {b off : Nat} {a' : Option Addr} {c' : Nat} (h : El S W a n cap i x b off a' c') (hb : Below W.heap.size W W1) : El S W1 a n cap i x b off a' c' :=
  ⟨h.idx, cell_ext h.c0 hb, cell_ext h.c1 hb, cell_ext h.c2 hb, h.ex.ext hb⟩

theorem ExprV.els {S : Nat → Prop} {W : World} {op num : Int} {xs : List Ex} {v : Value} (h : ExprV S W (.node op num xs) v) :
    ∃ a cap, v = .agg #[.int .i64 op, .int .i64 num, .slice a xs.length cap] ∧ xs.length ≤ cap ∧ cap ≤ maxLen ∧ Ad S W a xs.length cap ∧ WF op ∧ WF num ∧ ∀ k, k < xs.length → ∃ b off a' c', El S W a xs.length cap k (nthE xs k) b off a' c' := by
  cases h with
  | mk wo wn ha hl hm hc hx =>
    rename_i a cap us
    refine ⟨a, cap, rfl, hl, hm, ha, wo, wn, fun k hk => ?_⟩
    obtain ⟨i0, hi, hz⟩ := info_e
    have hix := idx_three Tryd.underlying22 hi hz ha k hk
    obtain ⟨a', cap', e, c0, c1, c2⟩ := elem_parts ha hc hx hk (.refl _ _)
    rcases ha with ⟨h0, _⟩ | ⟨b, off, rfl, _⟩
    · omega
    · exact ⟨b, off + k * 3, a', cap', hix, c0, c1, c2, e ▸ hx k hk⟩

theorem ExprV.one {S : Nat → Prop} {W : World} {op : Int} {x : Ex} {v : Value} (h : ExprV S W (oneE op x) v) :
    ∃ a cap b off a' c', v = .agg #[.int .i64 op, .int .i64 0, .slice a 1 cap] ∧ El S W a 1 cap 0 x b off a' c' := by
  obtain ⟨a, cap, rfl, _, _, _, _, _, he⟩ := h.els
  obtain ⟨b, off, a', c', h1⟩ := he 0 (by simp)
  exact ⟨a, cap, b, off, a', c', rfl, h1⟩
theorem ExprV.two {S : Nat → Prop} {W : World} {op : Int} {x y : Ex} {v : Value} (h : ExprV S W (twoE op x y) v) :
    ∃ a cap b off a' c' b2 off2 a2 c2, v = .agg #[.int .i64 op, .int .i64 0, .slice a 2 cap] ∧ El S W a 2 cap 0 x b off a' c' ∧ El S W a 2 cap 1 y b2 off2 a2 c2 := by
  obtain ⟨a, cap, rfl, _, _, _, _, _, he⟩ := h.els
  obtain ⟨b, off, a', c', h1⟩ := he 0 (by simp)
  obtain ⟨b2, off2, a2, c2, h2⟩ := he 1 (by simp)
  exact ⟨a, cap, b, off, a', c', b2, off2, a2, c2, rfl, h1, h2⟩
theorem ExprV.leaf {S : Nat → Prop} {W : World} {op num : Int} {v : Value} (h : ExprV S W (.node op num []) v) : ∃ a cap, v = .agg #[.int .i64 op, .int .i64 num, .slice a 0 cap] := by
  obtain ⟨a, cap, rfl, _⟩ := h.els
  exact ⟨a, cap, rfl⟩
theorem Row.nine {w : World} {g : Nat} {e : TypeId} {x0 x1 x2 x3 x4 x5 x6 x7 x8 : Value} (h : Row w g e [x0, x1, x2, x3, x4, x5, x6, x7, x8]) : w.cell? ⟨g, 0, none⟩ = some x0 ∧ w.cell? ⟨g, 1, none⟩ = some x1 ∧ w.cell? ⟨g, 2, none⟩ = some x2 ∧ w.cell? ⟨g, 3, none⟩ = some x3 ∧ w.cell? ⟨g, 4, none⟩ = some x4 ∧ w.cell? ⟨g, 5, none⟩ = some x5 ∧ w.cell? ⟨g, 6, none⟩ = some x6 ∧ w.cell? ⟨g, 7, none⟩ = some x7 ∧ w.cell? ⟨g, 8, none⟩ = some x8 := ⟨h.cell (j := 0) rfl, h.cell (j := 1) rfl, h.cell (j := 2) rfl, h.cell (j := 3) rfl, h.cell (j := 4) rfl, h.cell (j := 5) rfl, h.cell (j := 6) rfl, h.cell (j := 7) rfl, h.cell (j := 8) rfl⟩
theorem Row.three {w : World} {g : Nat} {e : TypeId} {x0 x1 x2 : Value} (h : Row w g e [x0, x1, x2]) : w.cell? ⟨g, 0, none⟩ = some x0 ∧ w.cell? ⟨g, 1, none⟩ = some x1 ∧ w.cell? ⟨g, 2, none⟩ = some x2 := ⟨h.cell (j := 0) rfl, h.cell (j := 1) rfl, h.cell (j := 2) rfl⟩
end Go.Proofs.YthogcbffnbhalaaDoor

