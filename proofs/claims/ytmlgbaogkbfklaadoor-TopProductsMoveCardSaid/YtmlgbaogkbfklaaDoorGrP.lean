/- Permutations: the program's check. -/
import Derived.Test.YtmlgbaogkbfklaaDoorGrO
namespace Go.Proofs.YtmlgbaogkbfklaaDoor
set_option linter.unusedVariables false
open Go.RowKit
attribute [local go_sem ↓] Go.wp_at_zero Go.wp_at_succ

abbrev permI (pl : List Nat) : List Int := pl.map (Nat.cast : Nat → Int)
theorem number_quiet (w : World) {n : Nat} (h1 : 1 ≤ n) (h5 : n ≤ 5) : Calls Tryd.prog 53 #[.int .i64 n] w (QuietP w (.int .i64 0)) := by
  go_enter Tryd.func53, Tryd.ntmps53
  go_wp2
  go_ret
  exact .of rfl 0
def bC (f : Nat → Bool) : List Value := [.bool (f 0), .bool (f 1), .bool (f 2), .bool (f 3), .bool (f 4)]
theorem bC_congr {f g : Nat → Bool} (h : ∀ p, p < 5 → f p = g p) : bC f = bC g := by
  unfold bC; rw [h 0 (by omega), h 1 (by omega), h 2 (by omega), h 3 (by omega), h 4 (by omega)]
theorem bC_at {f : Nat → Bool} {p : Nat} (hp : p < 5) : (bC f)[p]? = some (.bool (f p)) := by
  rcases five hp with rfl | rfl | rfl | rfl | rfl <;> rfl
theorem bC_set {f : Nat → Bool} {p : Nat} (hp : p < 5) (x : Bool) : (bC f).set p (.bool x) = bC (fun q => if q = p then x else f q) := by
  rcases five hp with rfl | rfl | rfl | rfl | rfl <;> rfl
theorem info_bool : (Tryd.prog.info? 4).map (fun i => (i.zero, i.size, i.bytes)) = some (some (.bool false), 1, 1) := by kernel_rfl
theorem idx_seen (b : Nat) {p : Nat} (hp : p < 5) (W : World) :
    (Instr.indexAt 75 (.pointer (some ⟨b, 0, none⟩)) (.int .i64 p)).run Tryd.prog W = .ok (.pointer (some ⟨b, p, none⟩)) W := by
  obtain ⟨i, hi, hz1, hz2, hz3⟩ := info_parts info_bool
  have hA := Tryd.underlying75
  have hE : Tryd.prog.elem 75 = 4 := by simp [Program.elem, hA]
  have hL : Tryd.prog.arrayLen 75 = 5 := by simp [Program.arrayLen, hA]
  rw [run_indexAt_array W _ _ _ _ (by rw [hE, hL]; exact hA), hL, hE, if_pos (by omega)]
  simp [sizeOf, typeInfo, hi, hz2, Result.andThen, Addr.add]
  try exact fun h => h.symm
set_option maxRecDepth 100000 in
set_option maxHeartbeats 4000000 in
theorem permCheck_calls {S : Nat → Prop} {w : World} {v : Value} {pl : List Nat} (H : PermN pl) (hv : Ints S w v (permI pl)) : Calls Tryd.prog 36 #[v] w (Post w fun _ r => r = .int .i64 0) := by
  obtain ⟨l, hl⟩ : ∃ l, l = permI pl := ⟨_, rfl⟩
  have hll : l.length = pl.length := by rw [hl]; simp
  have n1 := H.pos
  have n5 := H.le
  have HST : Hid (∀ k, k < l.length → ∃ m : Nat, m < l.length ∧ nth l k = (m : Int) ∧ decide (m ∈ pl.take k) = false ∧ ∀ q, decide (q ∈ pl.take (k + 1)) = if q = m then true else decide (q ∈ pl.take k)) := Lib.hid fun k hk => by
    have hk2 : k < pl.length := by omega
    refine ⟨pl[k], by rw [hll]; exact H.lt _ (List.getElem_mem hk2), by rw [nth_eq hk]; simp [hl], ?_, fun q => ?_⟩
    · simp only [decide_eq_false_iff_not]
      intro hm
      obtain ⟨j, hj, e⟩ := List.getElem_of_mem hm
      simp only [List.getElem_take] at e
      have hj2 : j < k := by simp at hj; omega
      have := List.nodup_iff_pairwise_ne.1 H.nodup
      rw [List.pairwise_iff_getElem] at this
      exact this j k (by omega) hk2 hj2 e
    · have e1 : q ∈ pl.take (k + 1) ↔ q ∈ pl.take k ∨ q = pl[k] := by
        rw [← List.take_append_getElem hk2, List.mem_append, List.mem_singleton]
      by_cases e : q = pl[k]
      · rw [if_pos e, decide_eq_true_eq]; exact e1.2 (.inr e)
      · rw [if_neg e]
        exact decide_eq_decide.2 (e1.trans ⟨fun h => h.resolve_right e, .inl⟩)
  rw [← hl] at hv
  rw [← hll] at n1 n5
  have KN := Lib.hid fun W => ((number_quiet W n1 n5).mono fun _ _ h => h.take)
  obtain ⟨a, cap, rfl, ad, l1, lm⟩ := hv.form
  unfold maxLen at lm
  obtain ⟨i0, hi, hz0, hz1, hz2⟩ := info_parts info_int
  have HQ := Lib.hid (idx_one Tryd.underlying33 hi hz1 ad)
  have HC := Lib.hid hv
  clear hv hi hz0 hz1 hz2 ad hl H
  have HLL := Lib.hid hll
  clear hll
  go_enter Tryd.func36, Tryd.ntmps36
  go_wp2_with fail
  refine (KN.out _).mono ?_
  rintro _ w1 ⟨_, rfl, hq1, rfl⟩
  have hx1 := hq1.ext
  have R0 : Row (w1.alloc (.cells #[.bool false, .bool false, .bool false, .bool false, .bool false] 75)) w1.heap.size 75 (bC fun q => decide (q ∈ pl.take 0)) := (row_new w1 _ _).get (bC_congr (f := fun _ => false) fun p hp => by simp)
  have hx2 := ext_alloc' hx1 (.cells #[.bool false, .bool false, .bool false, .bool false, .bool false] 75)
  have hz := hx1.size
  clear hq1 hx1 KN
  go_wp2
  go_loopw [6, 15] (fun _ i wr => ∃ k : Nat, k ≤ l.length ∧ i = .int .i64 k ∧ Below w.heap.size w wr ∧ Row wr w1.heap.size 75 (bC fun q => decide (q ∈ pl.take k))) (fun _ i _ => l.length - (intOf i).toNat)
  case atStart => exact ⟨0, Nat.zero_le _, rfl, hx2, R0⟩
  case round =>
    clear hx2 R0
    obtain ⟨k, hk, rfl, hb, R⟩ := hrel
    by_cases hlt : k < l.length
    · have q := HQ.out k hlt
      have ck : wr.cell? (adr a k) = some (.int .i64 (nth l k)) := by
        obtain ⟨a0, cap0, e, _, _, _, hc, _⟩ := HC.out.ext hb
        simp only [Value.slice.injEq] at e
        obtain ⟨rfl, _, _⟩ := e
        exact hc k hlt
      obtain ⟨m, hml, hm, hmf, hmn⟩ := HST.out k hlt
      rw [hm] at ck
      have q2 := idx_seen w1.heap.size (show m < 5 by omega)
      have c2 := R.cell (bC_at (f := fun q => decide (q ∈ pl.take k)) (show m < 5 by omega))
      try dsimp only at c2
      rw [hmf] at c2
      have f2 := R.free m
      have R3 := (R.set m (.bool true)).get ((bC_set (show m < 5 by omega) true).trans (bC_congr (g := fun q => decide (q ∈ pl.take (k + 1))) fun p hp => (hmn p).symm))
      have hb3 := hb.setCell (p := ⟨w1.heap.size, m, none⟩) hz (.bool true)
      clear hm hmf hmn hb R
      go_wp2
      go_roundw
      case rel => exact ⟨k + 1, by omega, by go_num, hb3, R3⟩
      case measure => simp [intOf]; omega
    · obtain rfl : k = l.length := by omega
      go_wp2
      go_ret
      exact .mk hb rfl
end Go.Proofs.YtmlgbaogkbfklaaDoor
