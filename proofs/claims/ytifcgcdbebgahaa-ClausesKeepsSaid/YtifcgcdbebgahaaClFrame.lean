/- How arguments read as clauses and lists. -/
import Derived.Test.YtifcgcdbebgahaaRows
import Derived.Test.YtifcgcdbebgahaaWords
import Derived.WalkKit
import Derived.ProofKit
import Derived.OpenShut
import Derived.ShutString
import Derived.ChangeOld
import Derived.Below
import Derived.Lib.SmallJoins
import Derived.LaidMore
namespace Go.Proofs.Ytifcgcdbebgahaa
set_option linter.unusedVariables false
set_option maxRecDepth 100000
open Go.ChangeShapes Go.WideShapes Go.ChangeAt Go.RowKit

theorem ownGodebug : ownKnob Try.prog.godebug = none := by kernel_rfl
theorem laidOutAll : laidOutB Try.prog = true := by kernel_rfl
theorem cells_int' : Try.prog.cellsOf 3 = 1 := by kernel_rfl
theorem cellsI : Try.prog.cellsOf 25 = 1 := by kernel_rfl
theorem cells_rows : Try.prog.cellsOf 22 = 1 := by kernel_rfl
theorem cells_matrix : Try.prog.cellsOf 24 = 2 := by kernel_rfl

section
variable {H : Type} {enc : TypeId × Value → H} {W : World}

theorem read_lt {t : TypeId} {v : Value} {d : DataW H} {p : List MemPlace}
    (h : DataW.Trod enc Try.prog W 0 (fun _ => true) true t v d p) : ∀ x ∈ p, x.block < W.heap.size := by
  obtain ⟨m, hm⟩ := h; exact DataW.trod_lt m _ _ _ hm

theorem spot_none {a : Addr} {u : Value} (c0 : W.cell? a = some u) : a.spot = none := by
  unfold World.cell? at c0
  split at c0
  · split at c0
    · cases c0
    · rename_i hs; simpa using hs
  · cases c0
theorem add_zero' (a : Addr) : a.add 0 = a := by simp [Addr.add]
theorem add_adr {a : Addr} (h : a.spot = none) (j : Nat) : a.add j = adr (some a) j := by
  unfold Addr.add adr
  split
  · rename_i hj; subst hj; cases a; simp at h; simp [h]
  · rfl

theorem ints_of_trod {fuel : Nat} {cs : List Value} {y : DataW H × List MemPlace} (hf : DataW.trod enc Try.prog W 0 (fun _ => true) true fuel 25 cs = some y) : ∃ v l, cs = [v] ∧ Ints (fun _ => True) W v l := by
  rcases open_ints Try.underlying25 Try.underlying3 (by kernel_rfl) hf with ⟨hcs, _⟩ | ⟨x, l, c, zs, hcs, _, hl, hm, hz, _, hcell, hwz⟩
  · exact ⟨_, [], hcs, Ints.nil _ _⟩
  · have hz' : zs.length = c := by simpa using hz
    have hlen : (zs.take l).length = l := by simp; omega
    refine ⟨_, zs.take l, hcs, ?_⟩
    have hw : ∀ y ∈ zs.take l, WF y := fun y hy => WF.of_lit (hwz y (List.mem_of_mem_take hy))
    by_cases h0 : zs.length = 0
    · have hl0 : l = 0 := by omega
      have hc0 : c = 0 := by omega
      subst hl0 hc0
      exact ⟨some x, 0, by simp, .inl ⟨by simp, rfl⟩, by simp, by simp [maxLen], fun j hj => by simp at hj, hw⟩
    · have c0 := hcell 0 (by omega)
      rw [add_zero'] at c0
      have hx := spot_none c0
      have hb : x.block < W.heap.size := World.block_lt_of_cell? W _ c0
      refine ⟨some x, c, by rw [hlen], .inr ⟨x.block, x.off, by cases x; simp at hx; simp [hx], hb, trivial⟩, by omega, hm, fun j hj => ?_, hw⟩
      have := hcell j (by omega)
      rw [add_adr hx] at this
      rw [this]
      congr 2
      rw [hlen] at hj
      simp [nth, hj]

theorem choose_lists {Q : Nat → List Int → Prop} : ∀ n : Nat, (∀ i, i < n → ∃ e, Q i e) → ∃ l : List (List Int), l.length = n ∧ ∀ i, i < n → Q i (nthL l i) := by
  intro n
  induction n with
  | zero => intro _; exact ⟨[], rfl, fun i hi => by omega⟩
  | succ n ih =>
    intro h
    obtain ⟨l, hl, hq⟩ := ih fun i hi => h i (by omega)
    obtain ⟨e, he⟩ := h n (by omega)
    refine ⟨l ++ [e], by simp [hl], fun i hi => ?_⟩
    by_cases hin : i < n
    · have : nthL (l ++ [e]) i = nthL l i := by simp [nthL, List.getElem?_append_left (show i < l.length by omega)]
      rw [this]; exact hq i hin
    · obtain rfl : i = l.length := by omega
      have : nthL (l ++ [e]) l.length = e := by simp [nthL]
      rw [this, hl]; exact he

theorem get2 {α : Type} {l : List α} (h : l.length = 2) : ∃ a b, l = [a, b] := by
  match l, h with
  | [a, b], _ => exact ⟨a, b, rfl⟩
theorem get1 {α : Type} {l : List α} (h : l.length = 1) : ∃ a, l = [a] := by
  match l, h with
  | [a], _ => exact ⟨a, rfl⟩

theorem lists_of_trod {fuel : Nat} {cs : List Value} {y : DataW H × List MemPlace} (hf : DataW.trod enc Try.prog W 0 (fun _ => true) true fuel 22 cs = some y) : ∃ v ll, cs = [v] ∧ Lists (fun _ => True) W v ll := by
  rcases DataW.trod_slice Try.underlying22 hf with ⟨e2, _⟩ | ⟨a, len, cap, elems, rest, m, rfl, e2, _, _, hl, hm, hel, hi, hsp, _⟩
  · exact ⟨_, [], e2, Lists.nil _ _⟩
  · rw [cellsI] at hi hsp
    subst e2
    by_cases hc0 : cap = 0
    · have hl0 : len = 0 := by omega
      subst hc0 hl0
      exact ⟨_, [], rfl, some a, 0, rfl, .inl ⟨rfl, rfl⟩, Nat.le_refl _, by simp [maxLen], fun j hj => by simp at hj⟩
    · have key : ∀ i cs', W.cells? 0 (a.add (i * 1)) 1 = some cs' → ∃ u, cs' = [u] ∧ W.cell? (a.add i) = some u := by
        intro i cs' hcs
        obtain ⟨_, hl3, hat⟩ := World.cells?_some hcs
        obtain ⟨u, rfl⟩ := get1 hl3
        have := hat 0 (by omega)
        rw [add_zero', Nat.mul_one] at this
        exact ⟨u, rfl, this⟩
      have hcell0 : ∃ u, W.cell? a = some u := by
        by_cases hl0 : len = 0
        · have h3 := (hsp rfl).2 0 (by omega)
          have hrl := (hsp rfl).1
          rw [hl0] at h3
          cases hq : W.cells? 0 (a.add ((0 + 0) * 1)) 1 with
          | none =>
            rw [hq] at h3
            have : rest[0]? = some (rest[0]'(by omega)) := List.getElem?_eq_getElem (by omega)
            rw [this] at h3
            cases h3
          | some cs' =>
            obtain ⟨u, _, h⟩ := key 0 cs' hq
            rw [add_zero'] at h
            exact ⟨u, h⟩
        · have h3 := hi 0 (by omega)
          cases hq : W.cells? 0 (a.add (0 * 1)) 1 with
          | none =>
            rw [hq] at h3
            have : elems[0]? = some (elems[0]'(by omega)) := List.getElem?_eq_getElem (by omega)
            rw [this] at h3
            cases h3
          | some cs' =>
            obtain ⟨u, _, h⟩ := key 0 cs' hq
            rw [add_zero'] at h
            exact ⟨u, h⟩
      obtain ⟨u, hu⟩ := hcell0
      have hs := spot_none hu
      have hb : a.block < W.heap.size := World.block_lt_of_cell? W _ hu
      obtain ⟨es, hes, hq⟩ := choose_lists (Q := fun i e => ∃ u, W.cell? (adr (some a) i) = some u ∧ Ints (fun _ => True) W u e) len (by
        intro i hil
        have h3 := hi i hil
        have : elems[i]? = some (elems[i]'(by omega)) := List.getElem?_eq_getElem (by omega)
        rw [this] at h3
        cases hq : W.cells? 0 (a.add (i * 1)) 1 with
        | none => rw [hq] at h3; cases h3
        | some cs' =>
          rw [hq] at h3
          obtain ⟨u, rfl, hcu⟩ := key i cs' hq
          obtain ⟨v, l, hv, hI⟩ := ints_of_trod h3
          simp only [List.cons.injEq, and_true] at hv
          subst hv
          rw [add_adr hs] at hcu
          exact ⟨l, u, hcu, hI⟩)
      subst hes
      exact ⟨_, es, rfl, some a, cap, rfl, .inr ⟨a.block, a.off, by cases a; simp at hs; simp [hs], hb, trivial⟩, hl, hm, hq⟩

theorem read_mat {base : Nat} {v : Value} {d : DataW H} {p : List MemPlace} (hv : Value.okWide Try.prog W .any base 24 v)
    (h : DataW.Trod enc Try.prog W 0 (fun _ => true) true 24 v d p) : ∃ m, MatV (fun _ => True) W v m := by
  obtain ⟨cs, rfl, _⟩ := okWide_struct Try.underlying24 hv
  obtain ⟨fuel, hf⟩ := h
  obtain ⟨xs, n, rfl, hx, hlen, hxl, hg⟩ := DataW.trod_struct Try.underlying24 hf
  rw [cells_matrix] at hlen
  obtain ⟨l⟩ := cs
  obtain ⟨c0, c1, hl2⟩ := get2 hlen
  simp only [Value.cells] at hl2
  subst hl2
  obtain ⟨x0, x1, rfl⟩ := get2 (show xs.length = 2 from hxl)
  have h0 : DataW.trod enc Try.prog W 0 (fun _ => true) true n 3 (([c0, c1].drop 0).take (Try.prog.cellsOf 3)) = some x0 := hg 0 _ rfl
  have h1 : DataW.trod enc Try.prog W 0 (fun _ => true) true n 22 (([c0, c1].drop 1).take (Try.prog.cellsOf 22)) = some x1 := hg 1 _ rfl
  rw [cells_int'] at h0
  rw [cells_rows] at h1
  obtain ⟨op, e0, _, w0⟩ := DataW.trod_int Try.underlying3 (show DataW.trod enc Try.prog W 0 (fun _ => true) true n 3 [c0] = some x0 from h0)
  obtain ⟨v, ll, hv1, hL⟩ := lists_of_trod (show DataW.trod enc Try.prog W 0 (fun _ => true) true n 22 [c1] = some x1 from h1)
  simp only [List.cons.injEq, and_true] at e0 hv1
  subst e0 hv1
  exact ⟨⟨op, ll⟩, _, rfl, hL⟩

theorem read_ints {base : Nat} {v : Value} {d : DataW H} {p : List MemPlace} (hv : Value.okWide Try.prog W .any base 25 v)
    (h : DataW.Trod enc Try.prog W 0 (fun _ => true) true 25 v d p) : ∃ l, Ints (fun _ => True) W v l := by
  obtain ⟨a, len, cap, rfl⟩ := okWide_slice Try.underlying25 hv
  obtain ⟨fuel, hf⟩ := h
  obtain ⟨v, l, hv, hI⟩ := ints_of_trod hf
  simp only [Value.cells, List.cons.injEq, and_true] at hv
  subst hv
  exact ⟨l, hI⟩
theorem read_int {base : Nat} {v : Value} {d : DataW H} {p : List MemPlace} (hv : Value.okWide Try.prog W .any base 3 v)
    (h : DataW.Trod enc Try.prog W 0 (fun _ => true) true 3 v d p) : ∃ x, v = .int .i64 x ∧ WF x := by
  obtain ⟨x, rfl, rfl, rfl, wx⟩ := open_int Try.underlying3 hv h
  exact ⟨x, rfl, WF.of_lit wx⟩
theorem read_u16 {base : Nat} {v : Value} {d : DataW H} {p : List MemPlace} (hv : Value.okWide Try.prog W .any base 45 v)
    (h : DataW.Trod enc Try.prog W 0 (fun _ => true) true 45 v d p) : ∃ x, v = .int .u16 x := by
  obtain ⟨x, rfl, _⟩ := open_int Try.underlying45 hv h
  exact ⟨x, rfl⟩
end
end Go.Proofs.Ytifcgcdbebgahaa
