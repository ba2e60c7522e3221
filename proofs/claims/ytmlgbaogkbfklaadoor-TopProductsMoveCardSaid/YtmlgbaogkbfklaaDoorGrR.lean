/- Inverse permutations. -/
import Derived.Test.YtmlgbaogkbfklaaDoorGrQ
import Derived.Deep.OwnRows
namespace Go.Proofs.YtmlgbaogkbfklaaDoor
set_option linter.unusedVariables false
open Go.RowKit
attribute [local go_sem ↓] Go.wp_at_zero Go.wp_at_succ

/-- The inverse, as far as the first k places give it. -/
def invTo (pl : List Nat) (k : Nat) : List Int := (List.range pl.length).map fun q => if q ∈ pl.take k then (pl.idxOf q : Int) else 0
theorem invTo_len (pl : List Nat) (k : Nat) : (invTo pl k).length = pl.length := by simp [invTo]
theorem invTo_zero (pl : List Nat) : (invTo pl 0).map (Value.int .i64) = List.replicate pl.length (.int .i64 0) := by
  apply List.ext_getElem
  · simp [invTo]
  · intro i h1 h2; simp [invTo]
theorem invTo_set {pl : List Nat} (H : PermN pl) {k : Nat} (hk : k < pl.length) : (invTo pl k).set pl[k] (k : Int) = invTo pl (k + 1) := by
  apply List.ext_getElem
  · simp [invTo]
  · intro i h1 h2
    have e1 : i ∈ pl.take (k + 1) ↔ i ∈ pl.take k ∨ i = pl[k] := by
      rw [← List.take_append_getElem hk, List.mem_append, List.mem_singleton]
    rw [List.getElem_set]
    simp only [invTo, List.getElem_map, List.getElem_range]
    by_cases e : pl[k] = i
    · rw [if_pos e, if_pos (e1.2 (.inr e.symm))]
      subst e
      rw [H.nodup.idxOf_getElem]
    · rw [if_neg e]
      by_cases e2 : i ∈ pl.take k
      · rw [if_pos e2, if_pos (e1.2 (.inl e2))]
      · rw [if_neg e2, if_neg (fun h => (e1.1 h).elim e2 fun h => e h.symm)]
theorem invTo_wf {pl : List Nat} (H : PermN pl) (k : Nat) : ∀ x ∈ invTo pl k, WF x := fun x hx => by
  obtain ⟨q, hq, rfl⟩ := List.mem_map.1 hx
  have := H.le
  have h2 := List.idxOf_le_length (l := pl) (a := q)
  refine WF.small ?_
  split <;> omega
set_option maxRecDepth 100000 in
set_option maxHeartbeats 4000000 in
theorem inverse_calls {S : Nat → Prop} {w : World} {v : Value} {pl : List Nat} (H : PermN pl) (hv : Ints S w v (permI pl)) :
    Calls Tryd.prog 14 #[v] w (Post w fun w' r => ∃ u, r = .tuple #[u, .int .i64 0] ∧ Ints (fun b => w.heap.size ≤ b) w' u (invTo pl pl.length)) := by
  have K := Lib.hid (permCheck_calls H hv)
  have n1 := H.pos
  have n5 := H.le
  obtain ⟨l, hl⟩ : ∃ l, l = permI pl := ⟨_, rfl⟩
  have hll : l.length = pl.length := by rw [hl]; simp
  have HST : Hid (∀ k, k < l.length → ∃ m : Nat, m < l.length ∧ nth l k = (m : Int) ∧ (invTo pl k).set m (k : Int) = invTo pl (k + 1)) := Lib.hid fun k hk => by
    have hk2 : k < pl.length := by omega
    exact ⟨pl[k], by rw [hll]; exact H.lt _ (List.getElem_mem hk2), by rw [nth_eq hk]; simp [hl], invTo_set H hk2⟩
  have HWF := Lib.hid (invTo_wf H)
  have HI0 := Lib.hid (invTo_zero pl)
  have HIL := Lib.hid (invTo_len pl)
  rw [← hl] at hv
  rw [← hll] at n1 n5 HI0 HIL ⊢
  obtain ⟨a, cap, rfl, ad, l1, lm⟩ := hv.form
  unfold maxLen at lm
  obtain ⟨i0, hi, hz0, hz1, hz2⟩ := info_parts info_int
  have HQ := Lib.hid (idx_one Tryd.underlying33 hi hz1 ad)
  have hmk := run_make_row' 33 3 (.int .i64 0) 8 Tryd.underlying33 info_int rfl .i64 .i64 l.length (by omega) (by omega)
  have HQ2 : Hid (∀ (B n c k : Nat), k < n → ∀ W : World, (Instr.indexAt 33 (.slice (some ⟨B, 0, none⟩) n c) (.int .i64 k)).run Tryd.prog W = .ok (.pointer (some ⟨B, k, none⟩)) W) := Lib.hid fun B n c k hk W => by
    have hE : Tryd.prog.elem 33 = 3 := by simp [Program.elem, Tryd.underlying33]
    rw [run_indexAt_slice W 33 _ n c .i64 k (by rw [hE]; exact Tryd.underlying33), if_pos (by omega), hE]
    simp [sizeOf, typeInfo, hi, hz1, Result.andThen, Addr.add]
    try exact fun h => h.symm
  have HC := Lib.hid hv
  clear hv hi hz0 hz1 hz2 ad hl H hll
  go_enter Tryd.func14, Tryd.ntmps14
  go_wp2_with fail
  refine K.out.mono ?_
  rintro _ w1 ⟨_, rfl, hb1, rfl⟩
  have R0 : Row (w1.alloc (.cells (madeCells #[.int .i64 0] l.length) 3)) w1.heap.size 3 ((invTo pl 0).map (Value.int .i64)) := (Row.made w1 (.int .i64 0) l.length 3).get HI0.out.symm
  have hx2 := ext_alloc' hb1 (.cells (madeCells #[.int .i64 0] l.length) 3)
  have hz := hb1.size
  clear K hb1
  go_wp2
  go_loopw [6, 7, 18] (fun _ _ i wr => ∃ k : Nat, k ≤ l.length ∧ i = .int .i64 k ∧ Below w.heap.size w wr ∧ Row wr w1.heap.size 3 ((invTo pl k).map (Value.int .i64))) (fun _ _ i _ => l.length - (intOf i).toNat)
  case atStart => exact ⟨0, Nat.zero_le _, rfl, hx2, R0⟩
  case round =>
    clear hx2 R0 hmk
    obtain ⟨k, hk, rfl, hb, R⟩ := hrel
    by_cases hlt : k < l.length
    · have q := HQ.out k hlt
      have ck : wr.cell? (adr a k) = some (.int .i64 (nth l k)) := by
        obtain ⟨a0, cap0, e, _, _, _, hc, _⟩ := HC.out.ext hb
        simp only [Value.slice.injEq] at e
        obtain ⟨rfl, _, _⟩ := e
        exact hc k hlt
      obtain ⟨m, hml, hm, hms⟩ := HST.out k hlt
      rw [hm] at ck
      have q2 := HQ2.out w1.heap.size l.length l.length m hml
      have c2 : ∃ u, wr.cell? ⟨w1.heap.size, m, none⟩ = some u := ⟨_, R.cell (j := m) (List.getElem?_eq_getElem (by rw [List.length_map, HIL.out]; exact hml))⟩
      obtain ⟨u, c2⟩ := c2
      have f2 := R.free m
      have R3 := (R.set m (.int .i64 k)).get (show _ = (invTo pl (k + 1)).map (Value.int .i64) by rw [← hms, List.map_set])
      have hb3 := hb.setCell (p := ⟨w1.heap.size, m, none⟩) hz (.int .i64 k)
      clear hm hms hb R
      go_wp2
      go_roundw
      case rel => exact ⟨k + 1, by omega, by go_num, hb3, R3⟩
      case measure => simp [intOf]; omega
    · obtain rfl : k = l.length := by omega
      have HI : Hid (Ints (fun b => w.heap.size ≤ b) wr (.slice (some ⟨w1.heap.size, 0, none⟩) l.length l.length) (invTo pl l.length)) := Lib.hid (by
        have := (R.ints (by rw [HIL.out]; unfold maxLen; omega) (HWF.out _)).mono (S' := fun b => w.heap.size ≤ b) fun b hb => by omega
        rw [HIL.out] at this
        exact this)
      go_wp2
      go_ret2
      exact .mk hb ⟨_, rfl, HI.out⟩
end Go.Proofs.YtmlgbaogkbfklaaDoor
