/- The contract of partition.labels at pairs of ints. -/
import Derived.Test.YtmlgbaogkbfklaaDoorLabels
namespace Go.Proofs.YtmlgbaogkbfklaaDoor
set_option linter.unusedVariables false
open Go.RowKit

theorem laidOut : laidOutB Tryd.prog = true := by kernel_rfl
theorem pairKey_ok : Tryd.prog.keyType 77 = true := by kernel_rfl
theorem cells_pair : Tryd.prog.cellsOf 77 = 2 := by kernel_rfl
theorem cells_int : Tryd.prog.cellsOf 3 = 1 := by kernel_rfl
theorem types_two : ∃ d, Tryd.prog.types.size + 1 = d + 2 := by
  have h : Nat.ble 1 Tryd.prog.types.size = true := by kernel_rfl
  have := Nat.le_of_ble_eq_true h
  exact ⟨Tryd.prog.types.size - 1, by omega⟩

def pairV (p : Int × Int) : Value := .agg #[.int .i64 p.1, .int .i64 p.2]
def pairL (p : Int × Int) : Lit := .string (keyBytes [.int .i64 p.1, .int .i64 p.2])

theorem pair_reads (p : Int × Int) (h1 : WF p.1) (h2 : WF p.2) : keyOf Tryd.prog 77 (pairV p) = some (pairL p) := by
  obtain ⟨d, hd⟩ := types_two
  unfold keyOf
  rw [Tryd.underlying77]
  simp only [pairKey_ok, pairV, Value.formed, Tryd.underlying77, cells_pair, Value.cells, hd]
  simp [Program.keyLits, Tryd.underlying77, Tryd.underlying3, cells_pair, cells_int, h1.lit, h2.lit, pairL, List.range_succ]

noncomputable def keyPair : KeyB Tryd.prog 77 (Int × Int) where
  law := Maps.Keyed.of_law (deep_law_laid laidOut (m := 5) (by omega) (of_decide_eq_true (by kernel_rfl)) (by kernel_rfl) (by kernel_rfl))
  kv := pairV
  kl := pairL
  ok := fun p => WF p.1 ∧ WF p.2
  reads := fun p h => pair_reads p h.1 h.2
  inj := fun x y h => by
    simp [pairV] at h
    exact Prod.ext h.1 h.2

def cellsP (l : List (Int × Int)) : List Value := l.flatMap fun p => [.int .i64 p.1, .int .i64 p.2]
def nthP (l : List (Int × Int)) (k : Nat) : Int × Int := l.getD k (0, 0)
theorem nthP_eq {l : List (Int × Int)} {k : Nat} (h : k < l.length) : nthP l k = l[k] := by simp [nthP, h]
theorem nthP_mem {l : List (Int × Int)} {k : Nat} (h : k < l.length) : nthP l k ∈ l := by rw [nthP_eq h]; exact List.getElem_mem h
theorem take_nthP {l : List (Int × Int)} {k : Nat} (h : k < l.length) : l.take (k + 1) = l.take k ++ [nthP l k] := by rw [nthP_eq h]; exact (List.take_append_getElem h).symm
theorem cellsP_get : ∀ (l : List (Int × Int)) (k : Nat), k < l.length → (cellsP l)[k * 2]? = some (.int .i64 (nthP l k).1) ∧ (cellsP l)[k * 2 + 1]? = some (.int .i64 (nthP l k).2)
  | [], k, h => by simp at h
  | p :: l, 0, h => by simp [cellsP, nthP]
  | p :: l, k + 1, h => by
    have := cellsP_get l k (by simpa using h)
    have e : nthP (p :: l) (k + 1) = nthP l k := rfl
    rw [e]
    have e1 : (k + 1) * 2 = k * 2 + 1 + 1 := by omega
    have e2 : (k + 1) * 2 + 1 = k * 2 + 1 + 1 + 1 := by omega
    rw [e1]
    simpa [cellsP] using this

set_option maxRecDepth 100000 in
theorem labelsPair_calls {w : World} {g : Nat} {l : List (Int × Int)} (h : Row w g 77 (cellsP l)) (hf : ∀ p ∈ l, WF p.1 ∧ WF p.2) (hlen : l.length ≤ 65536) :
    Calls Tryd.prog 55 #[.slice (some ⟨g, 0, none⟩) l.length l.length] w (Post w fun w' r => Ints (fun b => w.heap.size ≤ b) w' r (labs l)) := by
  have hmm := @run_makeMap Tryd.prog
  have hmk := run_make_row' 33 3 (.int .i64 0) 8 Tryd.underlying33 info3 rfl .i64 .i64 l.length (by omega) (by omega)
  have hgl := h.lt
  go_enter Tryd.func55, Tryd.ntmps55
  go_wp2
  go_loopw [15] (fun i wr => ∃ k : Nat, k ≤ l.length ∧ i = .int .i64 k ∧ Below w.heap.size w wr ∧ MapV keyPair wr w.heap.size (labMap (l.take k)) (firsts (l.take k)).length ∧ Row wr (w.heap.size + 1) 3 (labRow (l.take k) l.length)) (fun i _ => l.length - (intOf i).toNat)
  case atStart =>
    refine ⟨0, by omega, rfl, ((Below.refl _ _).alloc (Nat.le_refl _) _).alloc (by simp) _, ?_, ?_⟩
    · rw [List.take_zero, labMap_nil]
      exact (MapV.made keyPair w).agree (Agree.of_grown (S := fun b => b = w.heap.size) (World.grownBy_alloc _ _ none) (by simp)) rfl
    · rw [List.take_zero, labRow_nil]
      have := Row.made (w.alloc (.map #[] 0)) (.int .i64 0) l.length 3
      simpa using this
  case round =>
    obtain ⟨k, hk, rfl, hb, hM, hR⟩ := hrel
    by_cases hlt : k < l.length
    · have hRa := h.ext hb
      have q0 := hRa.cell (cellsP_get l k hlt).1
      have q1 := hRa.cell (cellsP_get l k hlt).2
      have hwf : keyPair.ok (nthP l k) := hf _ (nthP_mem hlt)
      have HT := Lib.hid (take_nthP hlt)
      have hB := hb.size
      have hs := hM.lt
      have HK := Lib.hid (show (l.take k).length = k by simp; omega)
      have hR0 := hR.cell (j := k) (u := .int .i64 0) (by have := labRow_get (l := l.take k) (n := l.length) (by rw [HK.out]; omega); rw [HK.out] at this; exact this)
      have hRf := hR.free k
      have hRl := hR.lt
      have hFl : (firsts (l.take k)).length ≤ k := by have := length_firsts_le (l.take k); rw [HK.out] at this; exact this
      have pR1 : ∀ w1 : World, (wr.alloc (Obj.cells #[Value.int IntKind.i64 (nthP l k).fst, Value.int IntKind.i64 (nthP l k).snd] 77)).grownBy w1 (some w.heap.size) → Row w1 (w.heap.size + 1) 3 (labRow (l.take k) l.length) := fun w1 hg => (hR.alloc _).grown hg (by simp)
      have PR1 := Lib.hid pR1
      clear pR1
      by_cases hin : nthP l k ∈ l.take k
      · have hhit := Lib.hid (labMap_hit hin)
        go_wp2_with (at_lookup; refine wpList_hit rfl _ _ 91 rfl 3 Tryd.underlying91 (.int .i64 0) (zero_int _) rfl (hM.alloc _) (nthP l k) rfl hwf _ hhit.out ?_)
        go_roundw
        case rel => 
          have := HK.out
          refine ⟨k + 1, by omega, by go_num, (hb.setCell (by simp) _).alloc (by simpa using hB) _, ?_, ?_⟩
          · rw [HT.out, labMap_old hin, firsts_old hin]
            exact ((hM.grown (grownBy_setCell _ _ _ _) (by simp)).alloc _)
          · rw [HT.out, ← labRow_set (by rw [HK.out]; exact hlt), HK.out, lab_snoc hin]
            exact (hR.set k _).alloc _
        case measure => simp [intOf]; omega
      · have hmiss := Lib.hid (labMap_miss hin)
        go_wp2_with (first
          | (at_lookup; refine wpList_miss rfl _ _ 91 rfl 3 Tryd.underlying91 (.int .i64 0) (zero_int _) rfl (hM.alloc _) (nthP l k) rfl hwf hmiss.out ?_)
          | (at_len; refine wpList_maplen rfl _ 91 rfl 3 Tryd.underlying91 rfl (hM.alloc _) ?_)
          | (at_mapUpdate; refine wpList_upd rfl _ _ _ 91 rfl 3 Tryd.underlying91 rfl (hM.alloc _) (by unfold maxLen; omega) (nthP l k) rfl hwf (.int .i64 ((firsts (l.take k)).length : Int)) rfl ?_; intro w1 hM1 hg1; have p1 := (PR1.out w1 hg1).cell (j := k) (u := .int .i64 0) (by have := labRow_get (l := l.take k) (n := l.length) (by rw [HK.out]; omega); rw [HK.out] at this; exact this); have p2 := (PR1.out w1 hg1).free k))
        go_roundw
        case rel => 
          have := HK.out
          refine ⟨k + 1, by omega, by go_num, ((hb.alloc hB _).grown hg1 (by simp; omega) (fun j hj => by cases hj; exact Nat.le_refl _)).setCell (by simp) _, ?_, ?_⟩
          · rw [hmiss.out, labMap_new hin] at hM1
            rw [HT.out, firsts_new hin]
            simpa using hM1.grown (grownBy_setCell _ _ _ _) (by simp)
          · rw [HT.out, ← labRow_set (by rw [HK.out]; exact hlt), HK.out, lab_new hin]
            exact (PR1.out w1 hg1).set k _
        case measure => simp [intOf]; omega
    · have hk' : k = l.length := by omega
      subst hk'
      go_wp2
      go_ret
      rw [List.take_length, labRow_full] at hR
      have := hR.ints (by unfold maxLen; simp; omega) (labs_wf hlen)
      rw [length_labs] at this
      exact .mk hb (this.mono (by intro b hb; omega))
end Go.Proofs.YtmlgbaogkbfklaaDoor
