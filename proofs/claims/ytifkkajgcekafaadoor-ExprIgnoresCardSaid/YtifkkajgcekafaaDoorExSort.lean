/- Sorting and compacting a row of ints: the library contracts at this program, and in the words of this claim. -/
import Derived.Shelf.Small.Bits
import Derived.Shelf.Small.Wraps
import Derived.Shelf.Strconv.Itoa0
import Derived.Shelf.Sort.Plain
import Derived.Ground.Names2Prog
import Derived.Shelf.Slices.CompactI
import Derived.Shelf.Slices.SearchI
import Derived.Shelf.Slices.Cells
import Derived.Shelf.Slices.In.SortNone
import Derived.Test.YtifkkajgcekafaaDoorProg
import Derived.Test.YtifkkajgcekafaaDoorExNeg
namespace Go.Proofs
open Go.Shelf
def Tryd.lays189_ren : Go.Shelf.Ren := ⟨fun | 189 => 66 | 125 => 95 | 257 => 94 | 128 => 111 | 129 => 112 | 294 => 102 | 295 => 103 | 296 => 104 | 297 => 105 | 298 => 106 | 299 => 107 | 216 => 108 | 300 => 109 | 301 => 110 | 328 => 113 | 329 => 114 | 330 => 115 | 331 => 116 | 332 => 117 | 215 => 118 | 343 => 119 | n => n, fun | 28 => 25 | 3 => 3 | 46 => 95 | 0 => 0 | 51 => 108 | 53 => 110 | 4 => 4 | 183 => 101 | 182 => 100 | 131 => 91 | 5 => 5 | 9 => 9 | 218 => 111 | 222 => 115 | 228 => 117 | 229 => 36 | n => n, fun | n => n⟩
theorem Tryd.lays189 : Go.Proofs.Lays.n189 Tryd.prog Tryd.lays189_ren := {
  mixed := by kernel_rfl
  f125 := Tryd.func95.trans (congrArg some (by kernel_rfl))
  f128 := Tryd.func111.trans (congrArg some (by kernel_rfl))
  f129 := Tryd.func112.trans (congrArg some (by kernel_rfl))
  f189 := Tryd.func66.trans (congrArg some (by kernel_rfl))
  f215 := Tryd.func118.trans (congrArg some (by kernel_rfl))
  f216 := Tryd.func108.trans (congrArg some (by kernel_rfl))
  f257 := Tryd.func94.trans (congrArg some (by kernel_rfl))
  f294 := Tryd.func102.trans (congrArg some (by kernel_rfl))
  f295 := Tryd.func103.trans (congrArg some (by kernel_rfl))
  f296 := Tryd.func104.trans (congrArg some (by kernel_rfl))
  f297 := Tryd.func105.trans (congrArg some (by kernel_rfl))
  f298 := Tryd.func106.trans (congrArg some (by kernel_rfl))
  f299 := Tryd.func107.trans (congrArg some (by kernel_rfl))
  f300 := Tryd.func109.trans (congrArg some (by kernel_rfl))
  f301 := Tryd.func110.trans (congrArg some (by kernel_rfl))
  f328 := Tryd.func113.trans (congrArg some (by kernel_rfl))
  f329 := Tryd.func114.trans (congrArg some (by kernel_rfl))
  f330 := Tryd.func115.trans (congrArg some (by kernel_rfl))
  f331 := Tryd.func116.trans (congrArg some (by kernel_rfl))
  f332 := Tryd.func117.trans (congrArg some (by kernel_rfl))
  f343 := Tryd.func119.trans (congrArg some (by kernel_rfl))
  t0 := Tryd.underlying0
  a0 := Tryd.isAgg0
  z0 := Tryd.sizeOf0
  v0 := Tryd.zeroValue0
  t3 := Tryd.underlying3
  a3 := Tryd.isAgg3
  z3 := Tryd.sizeOf3
  v3 := Tryd.zeroValue3
  t4 := Tryd.underlying4
  a4 := Tryd.isAgg4
  z4 := Tryd.sizeOf4
  v4 := Tryd.zeroValue4
  t5 := Tryd.underlying5
  a5 := Tryd.isAgg5
  z5 := Tryd.sizeOf5
  v5 := Tryd.zeroValue5
  t9 := Tryd.underlying9
  a9 := Tryd.isAgg9
  z9 := Tryd.sizeOf9
  v9 := Tryd.zeroValue9
  t28 := Tryd.underlying25
  a28 := Tryd.isAgg25
  z28 := Tryd.sizeOf25
  v28 := Tryd.zeroValue25
  t46 := Tryd.underlying95
  a46 := Tryd.isAgg95
  z46 := Tryd.sizeOf95
  v46 := Tryd.zeroValue95
  t51 := Tryd.underlying108
  a51 := Tryd.isAgg108
  z51 := Tryd.sizeOf108
  v51 := Tryd.zeroValue108
  t53 := Tryd.underlying110
  a53 := Tryd.isAgg110
  z53 := Tryd.sizeOf110
  v53 := Tryd.zeroValue110
  t131 := Tryd.underlying91
  a131 := Tryd.isAgg91
  z131 := Tryd.sizeOf91
  v131 := Tryd.zeroValue91
  t182 := Tryd.underlying100
  a182 := Tryd.isAgg100
  z182 := Tryd.sizeOf100
  v182 := Tryd.zeroValue100
  t183 := Tryd.underlying101
  a183 := Tryd.isAgg101
  z183 := Tryd.sizeOf101
  v183 := Tryd.zeroValue101
  t218 := Tryd.underlying111
  a218 := Tryd.isAgg111
  z218 := Tryd.sizeOf111
  v218 := Tryd.zeroValue111
  t222 := Tryd.underlying115
  a222 := Tryd.isAgg115
  z222 := Tryd.sizeOf115
  v222 := Tryd.zeroValue115
  t228 := Tryd.underlying117
  a228 := Tryd.isAgg117
  z228 := Tryd.sizeOf117
  v228 := Tryd.zeroValue117
  t229 := Tryd.underlying36
  a229 := Tryd.isAgg36
  z229 := Tryd.sizeOf36
  v229 := Tryd.zeroValue36 }
open Go.Sort Go.RowKit in
theorem Tryd.slices_Sort_int (blk off cap : Nat) (zs : List Int) (w : World) (hH : Holds (Value.int .i64) w blk off zs.toArray) (hblk : blk < w.heap.size) (hsz : zs.length < 4611686018427387904) :
    Calls Tryd.prog 66 #[.slice (some ⟨blk, off, none⟩) zs.length cap] w fun e w' =>
      e = .returned (.tuple #[]) ∧ ∃ n os, w' = grow (putRow (Value.int .i64) (Sort.ahead w n) blk off (zs.mergeSort fun x y => decide (x ≤ y)).toArray) os := Any.slices_Sort_int Tryd.lays189 blk off cap zs w hH hblk hsz
def Tryd.laysNm220_ren : Go.Shelf.Ren := ⟨fun | 20 => 67 | n => n, fun | 22 => 25 | 3 => 3 | 4 => 4 | 0 => 0 | n => n, fun | n => n⟩
theorem Tryd.laysNm220 : Go.Proofs.Lays2.n20 Tryd.prog Tryd.laysNm220_ren := {
  mixed := by kernel_rfl
  f20 := Tryd.func67.trans (congrArg some (by kernel_rfl))
  t0 := Tryd.underlying0
  a0 := Tryd.isAgg0
  z0 := Tryd.sizeOf0
  v0 := Tryd.zeroValue0
  t3 := Tryd.underlying3
  a3 := Tryd.isAgg3
  z3 := Tryd.sizeOf3
  v3 := Tryd.zeroValue3
  t4 := Tryd.underlying4
  a4 := Tryd.isAgg4
  z4 := Tryd.sizeOf4
  v4 := Tryd.zeroValue4
  t22 := Tryd.underlying25
  a22 := Tryd.isAgg25
  z22 := Tryd.sizeOf25
  v22 := Tryd.zeroValue25
  i3 := by kernel_rfl }
open Go.RowKit Go.Lib Go.Sort in
/-- slices.Compact at []int: "Compact replaces consecutive runs of equal elements with a single copy. This is like the uniq command found on Unix. Compact modifies the contents of the slice s and returns the modified slice, which may have a smaller length. Compact zeroes the elements between the new length and the original length. The result preserves the nilness of s.": IT RETURNS THE SLICE CUT TO 'Lib.compact zs'; ITS CELLS HOLD 'Lib.compact zs', THEN ZERO VALUES up to the old length; all else is as it was, but for the count of draws. IN THE WORDS OF slices.Sort's CONTRACT ('Holds', 'putRow'): so the everyday 'slices.Sort(xs); xs = slices.Compact(xs)' goes from the one contract to the other. It asks 'zs.length ≤ cap' (every slice's: the reslicing 's[:k]' looks at it). Length 0, nil: '.._empty'. (LAID: no walk: one application.) -/
theorem Tryd.slices_Compact_int (blk off cap : Nat) (zs : List Int) (w : World) (hH : Holds (Value.int .i64) w blk off zs.toArray) (hsz : zs.length ≤ 9223372036854775807) (hcap : zs.length ≤ cap) :
    Calls Tryd.prog 67 #[.slice (some ⟨blk, off, none⟩) zs.length cap] w fun e w' => e = .returned (.slice (some ⟨blk, off, none⟩) (Lib.compact zs).length cap) ∧ ∃ q, w' = putRow (Value.int .i64) (Sort.ahead w q) blk off (Lib.compact zs ++ List.replicate (zs.length - (Lib.compact zs).length) 0).toArray := Any.slices_Compact_int Tryd.laysNm220 blk off cap zs w hH hsz hcap
open Go.RowKit Go.Lib Go.Sort in
/-- The same at a slice of length 0, a nil one too: it comes back as it is. (LAID: no walk: one application.) -/
theorem Tryd.slices_Compact_int_empty (a : Option Addr) (cap : Nat) (w : World) :
    Calls Tryd.prog 67 #[.slice a 0 cap] w fun e w' => e = .returned (.slice a 0 cap) ∧ w' = w := Any.slices_Compact_int_empty Tryd.laysNm220 a cap w
open Go.RowKit Go.Sort in
/-- .. and plain. (LAID: no walk: one application.) -/
theorem Tryd.slices_Sort_int_none (p : Option Addr) (cap : Nat) (w : World) :
    Calls Tryd.prog 66 #[.slice p 0 cap] w fun e w' => e = .returned (.tuple #[]) ∧ w' = w := Any.slices_Sort_int_none Tryd.lays189 p cap w
end Go.Proofs
namespace Go.Proofs.YtifkkajgcekafaaDoor
set_option linter.unusedVariables false
open Go.RowKit Go.Sort Go.Lib

def sortL (l : List Int) : List Int := l.mergeSort fun x y => decide (x ≤ y)
theorem sortL_perm (l : List Int) : (sortL l).Perm l := List.mergeSort_perm _ _
theorem sortL_length (l : List Int) : (sortL l).length = l.length := (sortL_perm l).length_eq
theorem sortL_sorted (l : List Int) : (sortL l).Pairwise (· ≤ ·) := by
  have := List.pairwise_mergeSort (le := fun x y : Int => decide (x ≤ y)) (fun a b c h1 h2 => by simp at *; omega) (fun a b => by simp; omega) l
  exact this.imp fun h => by simpa using h

theorem get!_nth (l : List Int) (j : Nat) : l.toArray[j]! = nth l j := by
  simp [nth, List.getD_eq_getElem?_getD, Array.getElem!_eq_getD, Array.getD_eq_getD_getElem?]
/-- Of a list in order without repetition: what compact makes of a list in order. -/
theorem compactUpTo_inv (l : List Int) (hs : l.Pairwise (· ≤ ·)) : ∀ m, m ≤ l.length → (compactUpTo l.toArray m).Pairwise (· < ·) ∧ (∀ x ∈ compactUpTo l.toArray m, ∀ j, m = j + 1 → x ≤ nth l j) ∧ (∀ x, x ∈ compactUpTo l.toArray m ↔ ∃ j, j < m ∧ nth l j = x) := by
  intro m
  induction m with
  | zero => intro _; exact ⟨by simp [compactUpTo], by simp [compactUpTo], by simp [compactUpTo]⟩
  | succ m ih =>
    intro hm
    obtain ⟨h1, h2, h3⟩ := ih (by omega)
    have hle : ∀ i j, i ≤ j → j < l.length → nth l i ≤ nth l j := by
      intro i j hij hj
      rcases Nat.lt_or_ge i j with h | h
      · rw [nth_eq (show i < l.length by omega), nth_eq hj]
        exact List.pairwise_iff_getElem.1 hs i j (by omega) hj h
      · obtain rfl : i = j := by omega
        omega
    rw [compactUpTo_succ, get!_nth]
    have hk : keeps l.toArray m = decide (m = 0 ∨ nth l m ≠ nth l (m - 1)) := by unfold keeps; rw [get!_nth, get!_nth]
    rw [hk]
    by_cases hc : m = 0 ∨ nth l m ≠ nth l (m - 1)
    · rw [decide_eq_true hc, if_pos rfl]
      refine ⟨?_, ?_, ?_⟩
      · rw [List.pairwise_append]
        refine ⟨h1, by simp, fun x hx y hy => ?_⟩
        obtain rfl : y = nth l m := by simpa using hy
        rcases Nat.eq_zero_or_pos m with h0 | h0
        · subst h0; simp [compactUpTo] at hx
        · have := h2 x hx (m - 1) (by omega)
          have := hle (m - 1) m (by omega) (by omega)
          rcases hc with hc | hc <;> omega
      · intro x hx j hj
        obtain rfl : j = m := by omega
        rcases List.mem_append.1 hx with hx | hx
        · obtain ⟨i, hi, rfl⟩ := (h3 x).1 hx
          exact hle i j (by omega) (by omega)
        · obtain rfl : x = nth l j := by simpa using hx
          omega
      · intro x
        rw [List.mem_append, h3]
        constructor
        · rintro (⟨j, hj, rfl⟩ | hx)
          · exact ⟨j, by omega, rfl⟩
          · exact ⟨m, by omega, (List.mem_singleton.1 hx).symm⟩
        · rintro ⟨j, hj, rfl⟩
          rcases Nat.lt_or_ge j m with h | h
          · exact .inl ⟨j, h, rfl⟩
          · obtain rfl : j = m := by omega
            exact .inr (by simp)
    · rw [decide_eq_false hc, if_neg (by simp), List.append_nil]
      have hc0 : m ≠ 0 := fun h => hc (.inl h)
      have hce : nth l m = nth l (m - 1) := by
        rcases Decidable.em (nth l m = nth l (m - 1)) with h | h
        · exact h
        · exact absurd (.inr h) hc
      refine ⟨h1, ?_, ?_⟩
      · intro x hx j hj
        obtain rfl : j = m := by omega
        rw [hce]
        exact h2 x hx (j - 1) (by omega)
      · intro x
        rw [h3]
        constructor
        · rintro ⟨j, hj, rfl⟩
          exact ⟨j, by omega, rfl⟩
        · rintro ⟨j, hj, rfl⟩
          rcases Nat.lt_or_ge j m with h | h
          · exact ⟨j, h, rfl⟩
          · obtain rfl : j = m := by omega
            exact ⟨j - 1, by omega, hce.symm⟩
theorem compact_sorted (l : List Int) (hs : l.Pairwise (· ≤ ·)) : (compact l).Pairwise (· < ·) ∧ ∀ x, x ∈ compact l ↔ x ∈ l := by
  obtain ⟨h1, _, h3⟩ := compactUpTo_inv l hs l.length (Nat.le_refl _)
  refine ⟨h1, fun x => (h3 x).trans ?_⟩
  constructor
  · rintro ⟨j, hj, rfl⟩; exact nth_mem hj
  · intro hx
    obtain ⟨j, hj, rfl⟩ := List.getElem_of_mem hx
    exact ⟨j, hj, nth_eq hj⟩
theorem free_eq {vars : Int} {e : Ex} (h : Wf vars e) : compact (sortL (varsE vars e)) = freeE e vars := by
  obtain ⟨h1, h2⟩ := compact_sorted _ (sortL_sorted (varsE vars e))
  refine eq_of_sorted h1 (freeE_lt e vars) fun x => ?_
  rw [h2, (sortL_perm _).mem_iff, mem_varsE, mem_freeE]
  constructor
  · rintro ⟨h3, h4⟩; exact ⟨h.ment_nonneg x h3, h4, h3⟩
  · rintro ⟨h3, h4, h5⟩; exact ⟨h5, h4⟩

/-- A row at the head of block g that reads as l, not frozen. -/
def RowAt (W : World) (g : Nat) (l : List Int) : Prop := g < W.heap.size ∧ ∀ j, j < l.length → W.cell? ⟨g, j, none⟩ = some (.int .i64 (nth l j)) ∧ W.frozen? ⟨g, j, none⟩ = false
theorem RowAt.holds {W : World} {g : Nat} {l : List Int} (h : RowAt W g l) : Holds (Value.int .i64) W g 0 l.toArray := by
  intro j hj
  rw [Nat.zero_add, get!_nth]
  exact h.2 j (by simpa using hj)
theorem RowAt.of_own {W : World} {base g n cap : Nat} {l : List Int} (h : W.ownsRow base 3 1 (.slice (some ⟨g, 0, none⟩) n cap) l.length (l.map (Value.int .i64))) : RowAt W g l := by
  refine ⟨(h.lt g rfl).2, fun j hj => ⟨?_, ?_⟩⟩
  · have hn : n = l.length := by
      rcases h.2 with ⟨h', _⟩ | ⟨g', cap', cur, h', _⟩
      · simp at h'
      · simp only [Value.slice.injEq] at h'; exact h'.2.1
    subst hn
    rw [h.cellAt j (by omega), List.getElem?_map, get?_nth hj]
    rfl
  · rcases h.2 with ⟨h', _⟩ | ⟨g', cap', cur, h', hb, hg, _⟩
    · simp at h'
    · simp only [Value.slice.injEq, Option.some.injEq, Addr.mk.injEq, and_true] at h'
      obtain ⟨rfl, _⟩ := h'
      simp [World.frozen?, hg]
theorem putRow_rowAt {W : World} {g q : Nat} {l l' : List Int} (os : Array Obj) (h : RowAt W g l) (hl : l'.length = l.length) :
    RowAt (grow (putRow (Value.int .i64) (Sort.ahead W q) g 0 l'.toArray) os) g l' ∧ Agree (fun b => b ≠ g) W (grow (putRow (Value.int .i64) (Sort.ahead W q) g 0 l'.toArray) os) ∧ Below 0 W (grow (putRow (Value.int .i64) (Sort.ahead W q) g 0 l'.toArray) os) := by
  have hH := h.holds
  have hP := holds_putRow (Value.int .i64) (Sort.ahead W q) g 0 l.toArray l'.toArray hH (by simpa using hl)
  have hsz : (putRow (Value.int .i64) (Sort.ahead W q) g 0 l'.toArray).heap.size = W.heap.size := by simp
  have hG := holds_grow (Value.int .i64) _ os g 0 l'.toArray (by rw [hsz]; exact h.1) hP
  refine ⟨⟨by rw [size_grow, hsz]; have := h.1; omega, fun j hj => ?_⟩, ⟨by rw [size_grow, hsz]; omega, fun b hb hl => ?_⟩, rfl, rfl, rfl, by rw [size_grow, hsz]; omega, fun k hk => by omega⟩
  · have := hG j (by simpa using hj)
    rw [Nat.zero_add, get!_nth] at this
    exact this
  · rw [heap_grow_old _ _ (by rw [hsz]; exact hl)]
    show ((W.heap).modify g _)[b]? = _
    rw [Array.getElem?_modify, if_neg (fun e => hb e.symm)]
theorem sort_calls {W : World} {g n cap : Nat} {l : List Int} (hn : n = l.length) (h : RowAt W g l) (hl : l.length ≤ 100000) :
    Calls Tryd.prog 66 #[.slice (some ⟨g, 0, none⟩) n cap] W fun e w' => e = .returned (.tuple #[]) ∧ RowAt w' g (sortL l) ∧ Agree (fun b => b ≠ g) W w' ∧ Below 0 W w' := by
  subst hn
  refine (Tryd.slices_Sort_int g 0 cap l W h.holds h.1 (by omega)).mono ?_
  rintro e w' ⟨rfl, q, os, rfl⟩
  have := putRow_rowAt (q := q) (l' := sortL l) os h (sortL_length l)
  exact ⟨rfl, this.1, this.2.1, this.2.2⟩
theorem compact_calls {W : World} {g n cap : Nat} {l : List Int} (hn : n = l.length) (h : RowAt W g l) (hl : l.length ≤ 100000) (hcap : n ≤ cap) :
    Calls Tryd.prog 67 #[.slice (some ⟨g, 0, none⟩) n cap] W fun e w' => e = .returned (.slice (some ⟨g, 0, none⟩) (compact l).length cap) ∧ RowAt w' g (compact l ++ List.replicate (l.length - (compact l).length) 0) ∧ Agree (fun b => b ≠ g) W w' ∧ Below 0 W w' := by
  subst hn
  refine (Tryd.slices_Compact_int g 0 cap l W h.holds (by omega) hcap).mono ?_
  rintro e w' ⟨rfl, q, rfl⟩
  have hle := compact_length_le l
  have := putRow_rowAt (q := q) (l' := compact l ++ List.replicate (l.length - (compact l).length) 0) #[] h (by simp; omega)
  rw [grow_empty] at this
  exact ⟨rfl, this.1, this.2.1, this.2.2⟩
end Go.Proofs.YtifkkajgcekafaaDoor
