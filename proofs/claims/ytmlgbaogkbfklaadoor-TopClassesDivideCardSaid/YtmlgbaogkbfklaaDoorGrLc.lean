/- Sorting a row of ints: the library's contract at this program, and in the words of this claim. -/
import Derived.Shelf.Small.Bits
import Derived.Shelf.Small.Wraps
import Derived.Shelf.Strconv.Itoa0
import Derived.Shelf.Sort.Plain
import Derived.Shelf.Slices.In.SortNone
import Derived.Test.YtmlgbaogkbfklaaDoorGrZ
namespace Go.Proofs
open Go.Shelf
def Tryd.lays189_ren : Go.Shelf.Ren := ⟨fun | 189 => 22 | 125 => 45 | 257 => 44 | 128 => 65 | 129 => 66 | 294 => 56 | 295 => 57 | 296 => 58 | 297 => 59 | 298 => 60 | 299 => 61 | 216 => 62 | 300 => 63 | 301 => 64 | 328 => 69 | 329 => 70 | 330 => 71 | 331 => 72 | 332 => 73 | 215 => 74 | 343 => 76 | n => n, fun | 28 => 33 | 3 => 3 | 46 => 71 | 0 => 0 | 51 => 87 | 53 => 89 | 4 => 4 | 183 => 81 | 182 => 80 | 131 => 67 | 5 => 5 | 9 => 9 | 218 => 92 | 222 => 96 | 228 => 100 | 229 => 101 | n => n, fun | n => n⟩
theorem Tryd.lays189 : Go.Proofs.Lays.n189 Tryd.prog Tryd.lays189_ren := {
  mixed := by kernel_rfl
  f125 := Tryd.func45.trans (congrArg some (by kernel_rfl))
  f128 := Tryd.func65.trans (congrArg some (by kernel_rfl))
  f129 := Tryd.func66.trans (congrArg some (by kernel_rfl))
  f189 := Tryd.func22.trans (congrArg some (by kernel_rfl))
  f215 := Tryd.func74.trans (congrArg some (by kernel_rfl))
  f216 := Tryd.func62.trans (congrArg some (by kernel_rfl))
  f257 := Tryd.func44.trans (congrArg some (by kernel_rfl))
  f294 := Tryd.func56.trans (congrArg some (by kernel_rfl))
  f295 := Tryd.func57.trans (congrArg some (by kernel_rfl))
  f296 := Tryd.func58.trans (congrArg some (by kernel_rfl))
  f297 := Tryd.func59.trans (congrArg some (by kernel_rfl))
  f298 := Tryd.func60.trans (congrArg some (by kernel_rfl))
  f299 := Tryd.func61.trans (congrArg some (by kernel_rfl))
  f300 := Tryd.func63.trans (congrArg some (by kernel_rfl))
  f301 := Tryd.func64.trans (congrArg some (by kernel_rfl))
  f328 := Tryd.func69.trans (congrArg some (by kernel_rfl))
  f329 := Tryd.func70.trans (congrArg some (by kernel_rfl))
  f330 := Tryd.func71.trans (congrArg some (by kernel_rfl))
  f331 := Tryd.func72.trans (congrArg some (by kernel_rfl))
  f332 := Tryd.func73.trans (congrArg some (by kernel_rfl))
  f343 := Tryd.func76.trans (congrArg some (by kernel_rfl))
  t0 := Tryd.underlying0
  a0 := Tryd.isAgg0
  z0 := Tryd.sizeOf0
  v0 := Tryd.zeroValue0
  t3 := Tryd.underlying3
  a3 := Tryd.isAgg3
  z3 := Tryd.sizeOf3
  v3 := Tryd.zeroValue3
  t4 := Tryd.underlying4
  a4 := Tryd.isAgg4
  z4 := Tryd.sizeOf4
  v4 := Tryd.zeroValue4
  t5 := Tryd.underlying5
  a5 := Tryd.isAgg5
  z5 := Tryd.sizeOf5
  v5 := Tryd.zeroValue5
  t9 := Tryd.underlying9
  a9 := Tryd.isAgg9
  z9 := Tryd.sizeOf9
  v9 := Tryd.zeroValue9
  t28 := Tryd.underlying33
  a28 := Tryd.isAgg33
  z28 := Tryd.sizeOf33
  v28 := Tryd.zeroValue33
  t46 := Tryd.underlying71
  a46 := Tryd.isAgg71
  z46 := Tryd.sizeOf71
  v46 := Tryd.zeroValue71
  t51 := Tryd.underlying87
  a51 := Tryd.isAgg87
  z51 := Tryd.sizeOf87
  v51 := Tryd.zeroValue87
  t53 := Tryd.underlying89
  a53 := Tryd.isAgg89
  z53 := Tryd.sizeOf89
  v53 := Tryd.zeroValue89
  t131 := Tryd.underlying67
  a131 := Tryd.isAgg67
  z131 := Tryd.sizeOf67
  v131 := Tryd.zeroValue67
  t182 := Tryd.underlying80
  a182 := Tryd.isAgg80
  z182 := Tryd.sizeOf80
  v182 := Tryd.zeroValue80
  t183 := Tryd.underlying81
  a183 := Tryd.isAgg81
  z183 := Tryd.sizeOf81
  v183 := Tryd.zeroValue81
  t218 := Tryd.underlying92
  a218 := Tryd.isAgg92
  z218 := Tryd.sizeOf92
  v218 := Tryd.zeroValue92
  t222 := Tryd.underlying96
  a222 := Tryd.isAgg96
  z222 := Tryd.sizeOf96
  v222 := Tryd.zeroValue96
  t228 := Tryd.underlying100
  a228 := Tryd.isAgg100
  z228 := Tryd.sizeOf100
  v228 := Tryd.zeroValue100
  t229 := Tryd.underlying101
  a229 := Tryd.isAgg101
  z229 := Tryd.sizeOf101
  v229 := Tryd.zeroValue101 }
open Go.Sort Go.RowKit in
theorem Tryd.slices_Sort_int (blk off cap : Nat) (zs : List Int) (w : World) (hH : Holds (Value.int .i64) w blk off zs.toArray) (hblk : blk < w.heap.size) (hsz : zs.length < 4611686018427387904) :
    Calls Tryd.prog 22 #[.slice (some ⟨blk, off, none⟩) zs.length cap] w fun e w' =>
      e = .returned (.tuple #[]) ∧ ∃ n os, w' = grow (putRow (Value.int .i64) (Sort.ahead w n) blk off (zs.mergeSort fun x y => decide (x ≤ y)).toArray) os := Any.slices_Sort_int Tryd.lays189 blk off cap zs w hH hblk hsz
open Go.RowKit Go.Sort in
theorem Tryd.slices_Sort_int_none (p : Option Addr) (cap : Nat) (w : World) :
    Calls Tryd.prog 22 #[.slice p 0 cap] w fun e w' => e = .returned (.tuple #[]) ∧ w' = w := Any.slices_Sort_int_none Tryd.lays189 p cap w
end Go.Proofs
namespace Go.Proofs.YtmlgbaogkbfklaaDoor
set_option linter.unusedVariables false
open Go.RowKit Go.Sort Go.Lib

def sortL (l : List Int) : List Int := l.mergeSort fun x y => decide (x ≤ y)
theorem sortL_perm (l : List Int) : (sortL l).Perm l := List.mergeSort_perm _ _
theorem sortL_length (l : List Int) : (sortL l).length = l.length := (sortL_perm l).length_eq
theorem sortL_sorted (l : List Int) : (sortL l).Pairwise (· ≤ ·) := by
  have := List.pairwise_mergeSort (le := fun x y : Int => decide (x ≤ y)) (fun a b c h1 h2 => by simp at *; omega) (fun a b => by simp; omega) l
  exact this.imp fun h => by simpa using h

theorem get!_nth (l : List Int) (j : Nat) : l.toArray[j]! = nth l j := by
  simp [nth, List.getD_eq_getElem?_getD, Array.getElem!_eq_getD, Array.getD_eq_getD_getElem?]
/-- A row at the head of block g that reads as l, not frozen. -/
def RowAt (W : World) (g : Nat) (l : List Int) : Prop := g < W.heap.size ∧ ∀ j, j < l.length → W.cell? ⟨g, j, none⟩ = some (.int .i64 (nth l j)) ∧ W.frozen? ⟨g, j, none⟩ = false
theorem RowAt.holds {W : World} {g : Nat} {l : List Int} (h : RowAt W g l) : Holds (Value.int .i64) W g 0 l.toArray := by
  intro j hj
  rw [Nat.zero_add, get!_nth]
  exact h.2 j (by simpa using hj)
theorem RowAt.of_own {W : World} {base g n cap : Nat} {l : List Int} (h : W.ownsRow base 3 1 (.slice (some ⟨g, 0, none⟩) n cap) l.length (l.map (Value.int .i64))) : RowAt W g l := by
  refine ⟨(h.lt g rfl).2, fun j hj => ⟨?_, ?_⟩⟩
  · have hn : n = l.length := by
      rcases h.2 with ⟨h', _⟩ | ⟨g', cap', cur, h', _⟩
      · simp at h'
      · simp only [Value.slice.injEq] at h'; exact h'.2.1
    subst hn
    rw [h.cellAt j (by omega), List.getElem?_map, get?_nth hj]
    rfl
  · rcases h.2 with ⟨h', _⟩ | ⟨g', cap', cur, h', hb, hg, _⟩
    · simp at h'
    · simp only [Value.slice.injEq, Option.some.injEq, Addr.mk.injEq, and_true] at h'
      obtain ⟨rfl, _⟩ := h'
      simp [World.frozen?, hg]
theorem putRow_rowAt {W : World} {g q : Nat} {l l' : List Int} (os : Array Obj) (h : RowAt W g l) (hl : l'.length = l.length) :
    RowAt (grow (putRow (Value.int .i64) (Sort.ahead W q) g 0 l'.toArray) os) g l' ∧ Agree (fun b => b ≠ g) W (grow (putRow (Value.int .i64) (Sort.ahead W q) g 0 l'.toArray) os) ∧ Below 0 W (grow (putRow (Value.int .i64) (Sort.ahead W q) g 0 l'.toArray) os) := by
  have hH := h.holds
  have hP := holds_putRow (Value.int .i64) (Sort.ahead W q) g 0 l.toArray l'.toArray hH (by simpa using hl)
  have hsz : (putRow (Value.int .i64) (Sort.ahead W q) g 0 l'.toArray).heap.size = W.heap.size := by simp
  have hG := holds_grow (Value.int .i64) _ os g 0 l'.toArray (by rw [hsz]; exact h.1) hP
  refine ⟨⟨by rw [size_grow, hsz]; have := h.1; omega, fun j hj => ?_⟩, ⟨by rw [size_grow, hsz]; omega, fun b hb hl => ?_⟩, rfl, rfl, rfl, by rw [size_grow, hsz]; omega, fun k hk => by omega⟩
  · have := hG j (by simpa using hj)
    rw [Nat.zero_add, get!_nth] at this
    exact this
  · rw [heap_grow_old _ _ (by rw [hsz]; exact hl)]
    show ((W.heap).modify g _)[b]? = _
    rw [Array.getElem?_modify, if_neg (fun e => hb e.symm)]
theorem sort_calls {W : World} {g n cap : Nat} {l : List Int} (hn : n = l.length) (h : RowAt W g l) (hl : l.length ≤ 100000) :
    Calls Tryd.prog 22 #[.slice (some ⟨g, 0, none⟩) n cap] W fun e w' => e = .returned (.tuple #[]) ∧ RowAt w' g (sortL l) ∧ Agree (fun b => b ≠ g) W w' ∧ Below 0 W w' := by
  subst hn
  refine (Tryd.slices_Sort_int g 0 cap l W h.holds h.1 (by omega)).mono ?_
  rintro e w' ⟨rfl, q, os, rfl⟩
  have := putRow_rowAt (q := q) (l' := sortL l) os h (sortL_length l)
  exact ⟨rfl, this.1, this.2.1, this.2.2⟩
/-- Sorting a slice of the call's own. -/
theorem sortI_calls {base : Nat} {W : World} {v : Value} {l : List Int} (h : OwnI base W v l) (hl : l.length ≤ 100000) (hf : ∀ x ∈ l, WF x) :
    Calls Tryd.prog 22 #[v] W fun e w' => e = .returned (.tuple #[]) ∧ Ints (fun b => base ≤ b) w' v (sortL l) ∧ Agree (fun b => v.ownBlock ≠ some b) W w' ∧ Below base W w' := by
  rcases h.2 with ⟨rfl, h0⟩ | ⟨g, cap, cur, rfl, hb, hg, hnc, hcm, _⟩
  · have : l = [] := List.length_eq_zero_iff.1 h0
    subst this
    refine (Tryd.slices_Sort_int_none none 0 W).mono ?_
    rintro e w' ⟨rfl, rfl⟩
    exact ⟨rfl, by rw [show sortL [] = [] from List.eq_nil_of_length_eq_zero (by rw [sortL_length]; rfl)]; exact .nil _ _, .refl _ _, .refl _ _⟩
  · have hR := RowAt.of_own (show W.ownsRow base 3 1 (.slice (some ⟨g, 0, none⟩) l.length cap) l.length (l.map (Value.int .i64)) from h)
    refine (sort_calls (cap := cap) rfl hR hl).mono ?_
    rintro e w' ⟨rfl, hR2, hag, hb0⟩
    refine ⟨rfl, ⟨some ⟨g, 0, none⟩, cap, by rw [sortL_length], .inr ⟨g, 0, rfl, hR2.1, hb⟩, by rw [sortL_length]; exact hnc, hcm, fun j hj => by rw [adr_add, Nat.zero_add]; exact (hR2.2 j hj).1, fun x hx => hf x ((sortL_perm l).mem_iff.1 hx)⟩, hag.mono fun b hb e => hb (by rw [e]; rfl), ?_⟩
    obtain ⟨p1, p2, p3, p4, _⟩ := hb0
    exact ⟨p1, p2, p3, p4, fun k hk => hag.block k (by omega) (by have := hR.1; omega)⟩
end Go.Proofs.YtmlgbaogkbfklaaDoor
