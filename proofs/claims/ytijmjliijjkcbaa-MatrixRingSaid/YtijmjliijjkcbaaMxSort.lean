/- Sorting a row of ints. -/
import Derived.Test.YtijmjliijjkcbaaMxShelf
import Derived.Test.YtijmjliijjkcbaaSlices
import Derived.Shelf.Sort.Plain
import Derived.Shelf.Slices.Cells
namespace Go.Proofs.Ytijmjliijjkcbaa
set_option linter.unusedVariables false
open Go.RowKit Go.Shelf Go.Sort

def sortL (l : List Int) : List Int := l.mergeSort fun x y => decide (x ≤ y)
theorem sortL_perm (l : List Int) : (sortL l).Perm l := List.mergeSort_perm _ _
theorem sortL_length (l : List Int) : (sortL l).length = l.length := (sortL_perm l).length_eq
theorem sortL_sorted (l : List Int) : (sortL l).Pairwise (· ≤ ·) := by
  have := List.pairwise_mergeSort (le := fun x y : Int => decide (x ≤ y)) (fun a b c h1 h2 => by simp at *; omega) (fun a b => by simp; omega) l
  exact this.imp fun h => by simpa using h

theorem get!_nth (l : List Int) (j : Nat) : l.toArray[j]! = nth l j := by
  simp [nth, List.getD_eq_getElem?_getD, Array.getElem!_eq_getD, Array.getD_eq_getD_getElem?]
/-- A row at the head of block g that reads as l, not frozen. -/
def RowAt (W : World) (g : Nat) (l : List Int) : Prop := g < W.heap.size ∧ ∀ j, j < l.length → W.cell? ⟨g, j, none⟩ = some (.int .i64 (nth l j)) ∧ W.frozen? ⟨g, j, none⟩ = false
theorem RowAt.holds {W : World} {g : Nat} {l : List Int} (h : RowAt W g l) : Holds (Value.int .i64) W g 0 l.toArray := by
  intro j hj
  rw [Nat.zero_add, get!_nth]
  exact h.2 j (by simpa using hj)
theorem RowAt.of_own {W : World} {base g n cap : Nat} {l : List Int} (h : W.ownsRow base 3 1 (.slice (some ⟨g, 0, none⟩) n cap) l.length (l.map (Value.int .i64))) : RowAt W g l := by
  refine ⟨(h.lt g rfl).2, fun j hj => ⟨?_, ?_⟩⟩
  · have hn : n = l.length := by
      rcases h.2 with ⟨h', _⟩ | ⟨g', cap', cur, h', _⟩
      · simp at h'
      · simp only [Value.slice.injEq] at h'; exact h'.2.1
    subst hn
    rw [h.cellAt j (by omega), List.getElem?_map, get?_nth hj]
    rfl
  · rcases h.2 with ⟨h', _⟩ | ⟨g', cap', cur, h', hb, hg, _⟩
    · simp at h'
    · simp only [Value.slice.injEq, Option.some.injEq, Addr.mk.injEq, and_true] at h'
      obtain ⟨rfl, _⟩ := h'
      simp [World.frozen?, hg]
theorem putRow_rowAt {W : World} {g q : Nat} {l l' : List Int} (os : Array Obj) (h : RowAt W g l) (hl : l'.length = l.length) :
    RowAt (grow (putRow (Value.int .i64) (Sort.ahead W q) g 0 l'.toArray) os) g l' ∧ Agree (fun b => b ≠ g) W (grow (putRow (Value.int .i64) (Sort.ahead W q) g 0 l'.toArray) os) ∧ Below 0 W (grow (putRow (Value.int .i64) (Sort.ahead W q) g 0 l'.toArray) os) := by
  have hH := h.holds
  have hP := holds_putRow (Value.int .i64) (Sort.ahead W q) g 0 l.toArray l'.toArray hH (by simpa using hl)
  have hsz : (putRow (Value.int .i64) (Sort.ahead W q) g 0 l'.toArray).heap.size = W.heap.size := by simp
  have hG := holds_grow (Value.int .i64) _ os g 0 l'.toArray (by rw [hsz]; exact h.1) hP
  refine ⟨⟨by rw [size_grow, hsz]; have := h.1; omega, fun j hj => ?_⟩, ⟨by rw [size_grow, hsz]; omega, fun b hb hl => ?_⟩, rfl, rfl, rfl, by rw [size_grow, hsz]; omega, fun k hk => by omega⟩
  · have := hG j (by simpa using hj)
    rw [Nat.zero_add, get!_nth] at this
    exact this
  · rw [heap_grow_old _ _ (by rw [hsz]; exact hl)]
    show ((W.heap).modify g _)[b]? = _
    rw [Array.getElem?_modify, if_neg (fun e => hb e.symm)]
theorem sort_calls {W : World} {g n cap : Nat} {l : List Int} (hn : n = l.length) (h : RowAt W g l) (hl : l.length ≤ 100000) :
    Calls Try.prog 51 #[.slice (some ⟨g, 0, none⟩) n cap] W fun e w' => e = .returned (.tuple #[]) ∧ RowAt w' g (sortL l) ∧ Agree (fun b => b ≠ g) W w' ∧ Below 0 W w' := by
  subst hn
  refine (Try.slices_Sort_int g 0 cap l W h.holds h.1 (by omega)).mono ?_
  rintro e w' ⟨rfl, q, os, rfl⟩
  have := putRow_rowAt (q := q) (l' := sortL l) os h (sortL_length l)
  exact ⟨rfl, this.1, this.2.1, this.2.2⟩

/-- What else a call of the sort leaves. -/
theorem below_of_agree {w w' : World} {g B : Nat} (h0 : Below 0 w w') (ha : Agree (fun b => b ≠ g) w w') (hg : B ≤ g) (hB : B ≤ w.heap.size) : Below B w w' :=
  ⟨h0.1, h0.2, h0.3, ha.size, fun b hb => ha.block b (by omega) (by omega)⟩
theorem RowAt.ints {W : World} {g : Nat} {l : List Int} (h : RowAt W g l) (hl : l.length ≤ maxLen) (hf : ∀ x ∈ l, WF x) (cap : Nat) (hc : l.length ≤ cap) (hm : cap ≤ maxLen) : Ints (fun b => b = g) W (.slice (some ⟨g, 0, none⟩) l.length cap) l :=
  ⟨_, _, rfl, .inr ⟨g, 0, rfl, h.1, rfl⟩, hc, hm, fun j hj => by rw [adr_add, Nat.zero_add]; exact (h.2 j hj).1, hf⟩
end Go.Proofs.Ytijmjliijjkcbaa
