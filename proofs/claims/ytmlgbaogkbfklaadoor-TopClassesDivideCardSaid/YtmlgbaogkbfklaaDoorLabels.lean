/- The contract of partition.labels at ints. -/
import Derived.Test.YtmlgbaogkbfklaaDoorPartMath2
import Derived.Test.YtmlgbaogkbfklaaDoorMaps
import Derived.Deep.OwnRows
namespace Go.Proofs.YtmlgbaogkbfklaaDoor
set_option linter.unusedVariables false
open Go.RowKit

theorem info3 : (Tryd.prog.info? 3).map (fun i => (i.zero, i.size, i.bytes)) = some (some (.int .i64 0), 1, 8) := by kernel_rfl
theorem zero_int (w : World) : (zeroValue 3).run Tryd.prog w = .ok (.int .i64 0) w := by kernel_rfl
noncomputable def keyInt : KeyB Tryd.prog 3 Int := intKey Tryd.underlying3

set_option maxRecDepth 100000 in
theorem labelsInt_calls {S : Nat → Prop} {w : World} {v : Value} {l : List Int} (h : Ints S w v l) (hlen : l.length ≤ 65536) :
    Calls Tryd.prog 43 #[v] w (Post w fun w' r => Ints (fun b => w.heap.size ≤ b) w' r (labs l)) := by
  obtain ⟨a, cap, rfl, ha, _, hm, hc, hf⟩ := h
  clear hm
  obtain ⟨i0, hi, hz0, hz1, hz2⟩ := info_parts info3
  have hix := idx_one Tryd.underlying33 hi hz1 ha
  have hmm := @run_makeMap Tryd.prog
  have hmk := run_make_row' 33 3 (.int .i64 0) 8 Tryd.underlying33 info3 rfl .i64 .i64 l.length (by omega) (by omega)
  clear hi hz0 hz1 hz2
  go_enter Tryd.func43, Tryd.ntmps43
  go_wp2
  go_loopw [15] (fun i wr => ∃ k : Nat, k ≤ l.length ∧ i = .int .i64 k ∧ Below w.heap.size w wr ∧ MapV keyInt wr w.heap.size (labMap (l.take k)) (firsts (l.take k)).length ∧ Row wr (w.heap.size + 1) 3 (labRow (l.take k) l.length)) (fun i _ => l.length - (intOf i).toNat)
  case atStart =>
    refine ⟨0, by omega, rfl, ((Below.refl _ _).alloc (Nat.le_refl _) _).alloc (by simp) _, ?_, ?_⟩
    · rw [List.take_zero, labMap_nil]
      exact (MapV.made keyInt w).agree (Agree.of_grown (S := fun b => b = w.heap.size) (World.grownBy_alloc _ _ none) (by simp)) rfl
    · rw [List.take_zero, labRow_nil]
      have := Row.made (w.alloc (.map #[] 0)) (.int .i64 0) l.length 3
      simpa using this
  case round =>
    obtain ⟨k, hk, rfl, hb, hM, hR⟩ := hrel
    have hd := cells_at ha hb hc
    by_cases hlt : k < l.length
    · have q := hix k hlt
      have p := hd k hlt
      have hwf : WF (nth l k) := hf _ (nth_mem hlt)
      have HT := Lib.hid (take_nth hlt)
      have hB := hb.size
      have hs := hM.lt
      have HK := Lib.hid (show (l.take k).length = k by simp; omega)
      have hR0 := hR.cell (j := k) (u := .int .i64 0) (by have := labRow_get (l := l.take k) (n := l.length) (by rw [HK.out]; omega); rw [HK.out] at this; exact this)
      have hRf := hR.free k
      have hFl : (firsts (l.take k)).length ≤ k := by have := length_firsts_le (l.take k); rw [HK.out] at this; exact this
      by_cases hin : nth l k ∈ l.take k
      · have hhit := Lib.hid (labMap_hit hin)
        clear hix hd hc
        go_wp2_with (at_lookup; refine wpList_hit rfl _ _ 66 rfl 3 Tryd.underlying66 (.int .i64 0) (zero_int _) rfl hM (nth l k) rfl hwf _ hhit.out ?_)
        go_roundw
        case rel => 
          have := HK.out
          refine ⟨k + 1, by omega, by go_num, hb.setCell (by simp) _, ?_, ?_⟩
          · rw [HT.out, labMap_old hin, firsts_old hin]
            exact hM.agree (S := fun b => b = w.heap.size) (.of_grown (grownBy_setCell _ _ _ _) (by simp)) rfl
          · rw [HT.out, ← labRow_set (by rw [HK.out]; exact hlt), HK.out, lab_snoc hin]
            exact hR.set k _
        case measure => simp [intOf]; omega
      · have hmiss := Lib.hid (labMap_miss hin)
        clear hix hd hc
        go_wp2_with (first
          | (at_lookup; refine wpList_miss rfl _ _ 66 rfl 3 Tryd.underlying66 (.int .i64 0) (zero_int _) rfl hM (nth l k) rfl hwf hmiss.out ?_)
          | (at_len; refine wpList_maplen rfl _ 66 rfl 3 Tryd.underlying66 rfl hM ?_)
          | (at_mapUpdate; refine wpList_upd rfl _ _ _ 66 rfl 3 Tryd.underlying66 rfl hM (by unfold maxLen; omega) (nth l k) rfl hwf (.int .i64 ((firsts (l.take k)).length : Int)) rfl ?_; intro w1 hM1 hg1; have p1 := (hR.grown hg1 (by simp)).cell (j := k) (u := .int .i64 0) (by have := labRow_get (l := l.take k) (n := l.length) (by rw [HK.out]; omega); rw [HK.out] at this; exact this); have p2 := (hR.grown hg1 (by simp)).free k))
        go_roundw
        case rel => 
          have := HK.out
          refine ⟨k + 1, by omega, by go_num, (hb.grown hg1 hB (fun j hj => by cases hj; exact Nat.le_refl _)).setCell (by simp) _, ?_, ?_⟩
          · rw [hmiss.out, labMap_new hin] at hM1
            rw [HT.out, firsts_new hin]
            simpa using hM1.agree (S := fun b => b = w.heap.size) (.of_grown (grownBy_setCell _ _ _ _) (by simp)) rfl
          · rw [HT.out, ← labRow_set (by rw [HK.out]; exact hlt), HK.out, lab_new hin]
            exact (hR.grown hg1 (by simp)).set k _
        case measure => simp [intOf]; omega
    · have hk' : k = l.length := by omega
      subst hk'
      go_wp2
      go_ret
      rw [List.take_length, labRow_full] at hR
      have := hR.ints (by unfold maxLen; simp; omega) (labs_wf hlen)
      rw [length_labs] at this
      exact .mk hb (this.mono (by intro b hb; omega))
end Go.Proofs.YtmlgbaogkbfklaaDoor
