/- Graphs compared. -/
import Derived.Test.YtmlgbaogkbfklaaDoorGrB
import Derived.Laws.StructEq
namespace Go.Proofs.YtmlgbaogkbfklaaDoor
set_option linter.unusedVariables false
open Go.RowKit
attribute [local go_sem ↓] Go.wp_at_zero Go.wp_at_succ

theorem part_one (W : World) (xs : List Value) (k : Nat) (v : Value) (h : xs[k]? = some v) : (part 3 xs.toArray k).run Tryd.prog W = .ok v W := by
  obtain ⟨i, hi, hz1, hz2, hz3⟩ := info_parts info_int
  have hs : ((xs.toArray)[k]?) = some v := by simpa using h
  simp [part, sizeOf, typeInfo, hi, hz2, Tryd.underlying3, run_underlying, hs]
def eqG (n m : Int) (f g : Nat → Int) : Bool := n == m && (f 0 == g 0 && (f 1 == g 1 && (f 2 == g 2 && (f 3 == g 3 && f 4 == g 4))))
theorem eqG_iff {n m : Int} {f g : Nat → Int} : eqG n m f g = true ↔ n = m ∧ ∀ p, p < 5 → f p = g p := by
  unfold eqG
  simp only [Bool.and_eq_true, beq_iff_eq]
  constructor
  · rintro ⟨h, h0, h1, h2, h3, h4⟩
    refine ⟨h, fun p hp => ?_⟩
    rcases five hp with rfl | rfl | rfl | rfl | rfl <;> assumption
  · rintro ⟨h, hp⟩
    exact ⟨h, hp 0 (by omega), hp 1 (by omega), hp 2 (by omega), hp 3 (by omega), hp 4 (by omega)⟩
set_option maxRecDepth 100000 in
theorem equal_five (d : Nat) (f g : Nat → Int) (W : World) :
    (Op.equalIn (d + 2) 22 (.agg #[.int .i64 (f 0), .int .i64 (f 1), .int .i64 (f 2), .int .i64 (f 3), .int .i64 (f 4)]) (.agg #[.int .i64 (g 0), .int .i64 (g 1), .int .i64 (g 2), .int .i64 (g 3), .int .i64 (g 4)])).run Tryd.prog W
      = .ok (f 0 == g 0 && (f 1 == g 1 && (f 2 == g 2 && (f 3 == g 3 && f 4 == g 4)))) W := by
  obtain ⟨i, hi, hz1, hz2, hz3⟩ := info_parts info_int
  have pf0 : ∀ W : World, (part 3 #[.int .i64 (f 0), .int .i64 (f 1), .int .i64 (f 2), .int .i64 (f 3), .int .i64 (f 4)] 0).run Tryd.prog W = .ok (.int .i64 (f 0)) W := fun W => part_one W [.int .i64 (f 0), .int .i64 (f 1), .int .i64 (f 2), .int .i64 (f 3), .int .i64 (f 4)] 0 _ rfl
  have pf1 : ∀ W : World, (part 3 #[.int .i64 (f 0), .int .i64 (f 1), .int .i64 (f 2), .int .i64 (f 3), .int .i64 (f 4)] 1).run Tryd.prog W = .ok (.int .i64 (f 1)) W := fun W => part_one W [.int .i64 (f 0), .int .i64 (f 1), .int .i64 (f 2), .int .i64 (f 3), .int .i64 (f 4)] 1 _ rfl
  have pf2 : ∀ W : World, (part 3 #[.int .i64 (f 0), .int .i64 (f 1), .int .i64 (f 2), .int .i64 (f 3), .int .i64 (f 4)] 2).run Tryd.prog W = .ok (.int .i64 (f 2)) W := fun W => part_one W [.int .i64 (f 0), .int .i64 (f 1), .int .i64 (f 2), .int .i64 (f 3), .int .i64 (f 4)] 2 _ rfl
  have pf3 : ∀ W : World, (part 3 #[.int .i64 (f 0), .int .i64 (f 1), .int .i64 (f 2), .int .i64 (f 3), .int .i64 (f 4)] 3).run Tryd.prog W = .ok (.int .i64 (f 3)) W := fun W => part_one W [.int .i64 (f 0), .int .i64 (f 1), .int .i64 (f 2), .int .i64 (f 3), .int .i64 (f 4)] 3 _ rfl
  have pf4 : ∀ W : World, (part 3 #[.int .i64 (f 0), .int .i64 (f 1), .int .i64 (f 2), .int .i64 (f 3), .int .i64 (f 4)] 4).run Tryd.prog W = .ok (.int .i64 (f 4)) W := fun W => part_one W [.int .i64 (f 0), .int .i64 (f 1), .int .i64 (f 2), .int .i64 (f 3), .int .i64 (f 4)] 4 _ rfl
  have pg0 : ∀ W : World, (part 3 #[.int .i64 (g 0), .int .i64 (g 1), .int .i64 (g 2), .int .i64 (g 3), .int .i64 (g 4)] 0).run Tryd.prog W = .ok (.int .i64 (g 0)) W := fun W => part_one W [.int .i64 (g 0), .int .i64 (g 1), .int .i64 (g 2), .int .i64 (g 3), .int .i64 (g 4)] 0 _ rfl
  have pg1 : ∀ W : World, (part 3 #[.int .i64 (g 0), .int .i64 (g 1), .int .i64 (g 2), .int .i64 (g 3), .int .i64 (g 4)] 1).run Tryd.prog W = .ok (.int .i64 (g 1)) W := fun W => part_one W [.int .i64 (g 0), .int .i64 (g 1), .int .i64 (g 2), .int .i64 (g 3), .int .i64 (g 4)] 1 _ rfl
  have pg2 : ∀ W : World, (part 3 #[.int .i64 (g 0), .int .i64 (g 1), .int .i64 (g 2), .int .i64 (g 3), .int .i64 (g 4)] 2).run Tryd.prog W = .ok (.int .i64 (g 2)) W := fun W => part_one W [.int .i64 (g 0), .int .i64 (g 1), .int .i64 (g 2), .int .i64 (g 3), .int .i64 (g 4)] 2 _ rfl
  have pg3 : ∀ W : World, (part 3 #[.int .i64 (g 0), .int .i64 (g 1), .int .i64 (g 2), .int .i64 (g 3), .int .i64 (g 4)] 3).run Tryd.prog W = .ok (.int .i64 (g 3)) W := fun W => part_one W [.int .i64 (g 0), .int .i64 (g 1), .int .i64 (g 2), .int .i64 (g 3), .int .i64 (g 4)] 3 _ rfl
  have pg4 : ∀ W : World, (part 3 #[.int .i64 (g 0), .int .i64 (g 1), .int .i64 (g 2), .int .i64 (g 3), .int .i64 (g 4)] 4).run Tryd.prog W = .ok (.int .i64 (g 4)) W := fun W => part_one W [.int .i64 (g 0), .int .i64 (g 1), .int .i64 (g 2), .int .i64 (g 3), .int .i64 (g 4)] 4 _ rfl
  have he : ∀ (W : World) (a b : Int), (Op.equalIn (d + 1) 3 (.int .i64 a) (.int .i64 b)).run Tryd.prog W = .ok (a == b) W := fun W a b => run_equalIn_int W d _ _ _ a b Tryd.underlying3
  rw [Op.equalIn]
  simp [run_underlying Tryd.underlying22, sizeOf, typeInfo, hi, hz2, Std.Legacy.Range.forIn_eq_forIn_range', List.range', Std.Legacy.Range.size]
  simp only [pf0, pf1, pf2, pf3, pf4, pg0, pg1, pg2, pg3, pg4, he, Result.andThen_ok]
  cases f 0 == g 0 <;> cases f 1 == g 1 <;> cases f 2 == g 2 <;> cases f 3 == g 3 <;> cases f 4 == g 4 <;> rfl
theorem part_five (W : World) (n : Int) (f : Nat → Int) : (part 22 #[.int .i64 n, .int .i64 (f 0), .int .i64 (f 1), .int .i64 (f 2), .int .i64 (f 3), .int .i64 (f 4)] 1).run Tryd.prog W = .ok (.agg #[.int .i64 (f 0), .int .i64 (f 1), .int .i64 (f 2), .int .i64 (f 3), .int .i64 (f 4)]) W := by
  have hs : (Tryd.prog.info? 22).map (fun i => i.size) = some 5 := by kernel_rfl
  obtain ⟨i, hi, hz⟩ : ∃ i, Tryd.prog.info? 22 = some i ∧ i.size = 5 := by
    cases h0 : Tryd.prog.info? 22 with
    | none => rw [h0] at hs; cases hs
    | some i => rw [h0] at hs; exact ⟨i, rfl, by simpa using hs⟩
  simp [part, sizeOf, typeInfo, hi, hz, Tryd.underlying22, run_underlying]
set_option maxRecDepth 100000 in
theorem equal_graph (n m : Int) (f g : Nat → Int) (W : World) :
    (Op.equalIn 10000 24 (gV n f) (gV m g)).run Tryd.prog W = .ok (eqG n m f g) W := by
  have hF : (Tryd.prog.fieldsOf 24).toList.map (fun f => (f.name, f.type, f.offset)) = [("N", 3, 0), ("Hears", 22, 1)] := by kernel_rfl
  unfold gV
  rw [run_equalIn_struct W 9999 24 _ _ (by kernel_rfl) (by kernel_rfl)]
  obtain ⟨a, b, hab⟩ : ∃ a b, (Tryd.prog.fieldsOf 24).toList = [a, b] := by
    have := congrArg List.length hF
    simp only [List.length_map, List.length_cons, List.length_nil] at this
    match h : (Tryd.prog.fieldsOf 24).toList, this with
    | [a, b], _ => exact ⟨a, b, rfl⟩
  rw [hab] at hF ⊢
  simp only [List.map_cons, List.map_nil, List.cons.injEq, Prod.mk.injEq, and_true] at hF
  obtain ⟨⟨a1, a2, a3⟩, b1, b2, b3⟩ := hF
  have pn : ∀ (W : World) (n : Int) (f : Nat → Int), (part 3 #[.int .i64 n, .int .i64 (f 0), .int .i64 (f 1), .int .i64 (f 2), .int .i64 (f 3), .int .i64 (f 4)] 0).run Tryd.prog W = .ok (.int .i64 n) W := fun W n f => part_one W [.int .i64 n, .int .i64 (f 0), .int .i64 (f 1), .int .i64 (f 2), .int .i64 (f 3), .int .i64 (f 4)] 0 _ rfl
  have he : ∀ (W : World) (a b : Int), (Op.equalIn 9999 3 (.int .i64 a) (.int .i64 b)).run Tryd.prog W = .ok (a == b) W := fun W a b => run_equalIn_int W 9998 _ _ _ a b Tryd.underlying3
  have h5 := equal_five 9997 f g
  simp only [Op.eqFields, a1, a2, a3, b1, b2, b3, Sem.run_ite, Sem.run_bind, pn, part_five, he, h5, Result.andThen_ok, Sem.run_pure, ne_eq, String.reduceEq, not_false_eq_true, if_true]
  unfold eqG
  cases n == m <;> cases f 0 == g 0 <;> cases f 1 == g 1 <;> cases f 2 == g 2 <;> cases f 3 == g 3 <;> cases f 4 == g 4 <;> rfl
end Go.Proofs.YtmlgbaogkbfklaaDoor
