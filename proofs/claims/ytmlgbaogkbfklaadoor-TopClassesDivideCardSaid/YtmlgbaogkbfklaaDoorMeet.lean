/- The contract of partition.meet. -/
import Derived.Test.YtmlgbaogkbfklaaDoorLabelsP
namespace Go.Proofs.YtmlgbaogkbfklaaDoor
set_option linter.unusedVariables false
open Go.RowKit

/-- The partition that two lists of labels make together. -/
def meetS (a b : List Int) : List Int := labs (a.zip b)

/-- A row of n pairs, of which those of l are laid. -/
def pairRow (l : List (Int × Int)) (n : Nat) : List Value := cellsP l ++ List.replicate ((n - l.length) * 2) (.int .i64 0)
theorem length_cellsP (l : List (Int × Int)) : (cellsP l).length = l.length * 2 := by
  induction l with
  | nil => rfl
  | cons p l ih => simp [cellsP] at *; omega
theorem pairRow_full (l : List (Int × Int)) : pairRow l l.length = cellsP l := by simp [pairRow]
theorem pairRow_get {l : List (Int × Int)} {n : Nat} (h : l.length < n) : (pairRow l n)[l.length * 2]? = some (.int .i64 0) ∧ (pairRow l n)[l.length * 2 + 1]? = some (.int .i64 0) := by
  have e : (n - l.length) * 2 = (n - l.length - 1) * 2 + 1 + 1 := by omega
  unfold pairRow
  rw [List.getElem?_append_right (by rw [length_cellsP]; omega), List.getElem?_append_right (by rw [length_cellsP]; omega), length_cellsP, e, List.replicate_succ, List.replicate_succ]
  simp
theorem pairRow_set {l : List (Int × Int)} {n : Nat} (h : l.length < n) (p : Int × Int) :
    ((pairRow l n).set (l.length * 2) (.int .i64 p.1)).set (l.length * 2 + 1) (.int .i64 p.2) = pairRow (l ++ [p]) n := by
  have e : (n - l.length) * 2 = (n - (l ++ [p]).length) * 2 + 1 + 1 := by simp; omega
  unfold pairRow
  rw [List.set_append_right _ _ (by rw [length_cellsP]; omega), List.set_append_right _ _ (by rw [length_cellsP]; omega), length_cellsP, e, List.replicate_succ, List.replicate_succ]
  simp [cellsP]

theorem zip_nth {a b : List Int} {k : Nat} (ha : k < a.length) (hb : k < b.length) : nthP (a.zip b) k = (nth a k, nth b k) := by
  rw [nthP_eq (by simp; omega), nth_eq ha, nth_eq hb]; simp

theorem info_pair : (Tryd.prog.info? 77).map (fun i => (i.zero, i.size, i.bytes)) = some (some (.agg #[.int .i64 0, .int .i64 0]), 2, 16) := by kernel_rfl

theorem madeCells_two (z : Value) (n : Nat) : (madeCells #[z, z] (n * 2)).toList = List.replicate (n * 2) z := by
  apply List.ext_getElem?
  intro j
  by_cases hj : j < n * 2
  · have h2 : j % 2 = 0 ∨ j % 2 = 1 := by omega
    rcases h2 with h2 | h2 <;> simp [madeCells, hj, h2]
  · simp [madeCells, hj]

set_option maxRecDepth 100000 in
theorem meet_calls {S S' : Nat → Prop} {w : World} {va vb : Value} {a b : List Int} (ha : Ints S w va a) (hb : Ints S' w vb b) (hlen : a.length = b.length) (hmax : a.length ≤ 65536) :
    Calls Tryd.prog 41 #[va, vb] w (Post w fun w' r => Ints (fun b => w.heap.size ≤ b) w' r (meetS a b)) := by
  obtain ⟨aa, capa, rfl, haa, _, _, hca, hfa⟩ := ha
  obtain ⟨ab, capb, rfl, hab, _, _, hcb, hfb⟩ := hb
  obtain ⟨i0, hi, hz0, hz1, hz2⟩ := info_parts info3
  have hixa := idx_one Tryd.underlying33 hi hz1 haa
  have hixb := idx_one Tryd.underlying33 hi hz1 hab
  clear hi hz0 hz1 hz2
  obtain ⟨i2, hj, hy0, hy1, hy2⟩ := info_parts info_pair
  have HL := Lib.hid hlen
  clear hlen
  have hlz : (a.zip b).length = a.length := by have := HL.out; simp; omega
  have HZ := Lib.hid hlz
  clear hlz
  go_enter Tryd.func41, Tryd.ntmps41
  go_wp2_with (at_make; refine wpList_make_full _ rfl _ _ 76 rfl w.heap.size 77 i2 (.agg #[.int .i64 0, .int .i64 0]) 2 Tryd.underlying76 hj hy0 hy1 _ _ _ _ a.length rfl rfl rfl rfl (by rw [hy2]; omega) (by unfold maxLen; omega) (Nat.le_refl _) ?_; intro w1 ho1 hg1)
  obtain ⟨hR0, _⟩ := Row.of_own ho1
  rw [show (Value.agg #[.int .i64 0, .int .i64 0]).cells = #[Value.int .i64 0, .int .i64 0] from rfl, madeCells_two] at hR0
  have hb1 : Below w.heap.size w w1 := (Below.refl _ _).grown hg1 (Nat.le_refl _) (fun j hj => by cases hj)
  clear ho1 hg1
  go_loopw [12] (fun i wr => ∃ k : Nat, k ≤ a.length ∧ i = .int .i64 k ∧ Below w.heap.size w wr ∧ Row wr w.heap.size 77 (pairRow ((a.zip b).take k) a.length)) (fun i _ => a.length - (intOf i).toNat)
  case atStart => exact ⟨0, by omega, rfl, hb1, by simpa [pairRow, cellsP] using hR0⟩
  case round =>
    obtain ⟨k, hk, rfl, hb, hR⟩ := hrel
    clear hb1 hR0
    by_cases hlt : k < a.length
    · have hlt2 : k < b.length := by have := HL.out; omega
      have qa := hixa k hlt
      have qb := hixb k hlt2
      have pa := cells_at haa hb hca k hlt
      have pb := cells_at hab hb hcb k hlt2
      have HT := Lib.hid (take_nthP (l := a.zip b) (k := k) (by rw [HZ.out]; exact hlt))
      have HN := Lib.hid (zip_nth hlt hlt2)
      have HK := Lib.hid (show ((a.zip b).take k).length = k by rw [List.length_take, HZ.out]; omega)
      have hget := pairRow_get (l := (a.zip b).take k) (n := a.length) (by rw [HK.out]; exact hlt)
      rw [HK.out] at hget
      have g0 := hR.cell hget.1
      have g1 := hR.cell hget.2
      have f0 := hR.free (k * 2)
      have f1 := hR.free (k * 2 + 1)
      have hRl := hR.lt
      clear hget hixa hixb hca hcb
      go_wp2
      go_region
      all_goals go_wp2
      go_roundw
      case rel =>
        refine ⟨k + 1, by omega, by go_num, ((hb.setCell (by simp) _).setCell (by simp) _).drew, ?_⟩
        have hs := pairRow_set (l := (a.zip b).take k) (n := a.length) (by rw [HK.out]; exact hlt) (nth a k, nth b k)
        rw [HK.out] at hs
        rw [HT.out, HN.out, ← hs]
        exact (hR.set _ _).set _ _
      case measure => simp [intOf]; omega
    · have hk' : k = a.length := by omega
      subst hk'
      have hT : (a.zip b).take a.length = a.zip b := List.take_of_length_le (by rw [HZ.out]; omega)
      have hp := pairRow_full (a.zip b)
      rw [HZ.out] at hp
      rw [hT, hp] at hR
      have hfz : ∀ p ∈ a.zip b, WF p.1 ∧ WF p.2 := fun p hp => ⟨hfa _ (List.of_mem_zip hp).1, hfb _ (List.of_mem_zip hp).2⟩
      have c := labelsPair_calls hR hfz (by rw [HZ.out]; exact hmax)
      rw [HZ.out] at c
      have C := Lib.hid c
      clear c hp hT hfz
      go_wp2_with fail
      refine C.out.mono ?_
      rintro _ w2 ⟨v, rfl, hb2, hv⟩
      go_wp2
      go_ret
      exact .mk (ext_trans hb hb2) (hv.mono (by intro b hb'; have := hb.size; omega))
end Go.Proofs.YtmlgbaogkbfklaaDoor
