/- Matrices that lie in memory; their errors, in the program and in the reference. -/
import Derived.Test.YtijmjliijjkcbaaMxC1
namespace Go.Proofs.Ytijmjliijjkcbaa
set_option linter.unusedVariables false
open Go.RowKit
attribute [local go_sem ↓] Go.wp_at_zero Go.wp_at_succ

/-- The value reads as the matrix, in blocks of S. -/
def MatV (S : Nat → Prop) (w : World) (v : Value) (m : Mx) : Prop := ∃ rv, v = .agg #[.int .i64 m.cols, rv] ∧ Lists S w rv m.rows
theorem MatV.agree {S : Nat → Prop} {w w' : World} {v : Value} {m : Mx} (h : MatV S w v m) (hw : Agree S w w') : MatV S w' v m := by
  obtain ⟨rv, rfl, h⟩ := h; exact ⟨rv, rfl, h.agree hw⟩
theorem MatV.mono {S S' : Nat → Prop} {w : World} {v : Value} {m : Mx} (h : MatV S w v m) (hS : ∀ b, S b → S' b) : MatV S' w v m := by
  obtain ⟨rv, rfl, h⟩ := h; exact ⟨rv, rfl, h.mono hS⟩
theorem MatV.ext {S : Nat → Prop} {w w' : World} {v : Value} {m : Mx} (h : MatV S w v m) (hw : Below w.heap.size w w') : MatV S w' v m := h.agree (.of_ext hw)

theorem ext_alloc (w : World) (o : Obj) : Below w.heap.size w (w.alloc o) := (Below.refl _ _).alloc (Nat.le_refl _) _
theorem ext_alloc' {a w : World} (h : Below a.heap.size a w) (o : Obj) : Below a.heap.size a (w.alloc o) := h.alloc h.size _
theorem row_new (w : World) (xs : List Value) (e : TypeId) : Row (w.alloc (.cells xs.toArray e)) w.heap.size e xs := by
  unfold Row
  rw [heap_alloc_new]
theorem Row.two {w : World} {g : Nat} {e : TypeId} {x y : Value} (h : Row w g e [x, y]) : w.cell? ⟨g, 0, none⟩ = some x ∧ w.cell? ⟨g, 1, none⟩ = some y := ⟨h.cell rfl, h.cell rfl⟩

theorem info_ints : (Try.prog.info? 38).map (fun i => (i.zero, i.size, i.bytes)) = some (some (.slice none 0 0), 1, 24) := by kernel_rfl

/-- The cells of a slice of slices, in a later world. -/
theorem Lists.at {S : Nat → Prop} {w wr : World} {a : Option Addr} {cap : Nat} {ll : List (List Int)} (h : Lists S w (.slice a ll.length cap) ll) (hb : Below w.heap.size w wr) {k : Nat} (hk : k < ll.length) :
    ∃ u, wr.cell? (adr a k) = some u ∧ Ints S wr u (nthL ll k) := by
  obtain ⟨a', cap', e, ha, _, _, hc⟩ := h
  simp only [Value.slice.injEq, true_and] at e
  obtain ⟨rfl, rfl⟩ := e
  obtain ⟨u, hu, hi⟩ := hc k hk
  exact ⟨u, (ha.cell (.of_ext hb) hk).trans hu, hi.ext hb⟩
theorem Lists.form {S : Nat → Prop} {w : World} {v : Value} {ll : List (List Int)} (h : Lists S w v ll) : ∃ a cap, v = .slice a ll.length cap ∧ Ad S w a ll.length cap ∧ ll.length ≤ cap ∧ cap ≤ maxLen := by
  obtain ⟨a, cap, rfl, ha, h1, h2, _⟩ := h
  exact ⟨a, cap, rfl, ha, h1, h2⟩
theorem Ints.form {S : Nat → Prop} {w : World} {v : Value} {l : List Int} (h : Ints S w v l) : ∃ a cap, v = .slice a l.length cap ∧ Ad S w a l.length cap ∧ l.length ≤ cap ∧ cap ≤ maxLen := by
  obtain ⟨a, cap, rfl, ha, h1, h2, _⟩ := h
  exact ⟨a, cap, rfl, ha, h1, h2⟩

theorem checkM_cols {m : Mx} (h : m.cols < 0 ∨ 4096 < m.cols) : checkM m = 2 := by unfold checkM; rw [if_pos h]
theorem checkM_many {m : Mx} (h0 : 0 ≤ m.cols) (h1 : m.cols ≤ 4096) (h : 4096 < m.rows.length) : checkM m = 5 := by unfold checkM; rw [if_neg (by omega), if_pos h]
theorem checkM_rows {m : Mx} (h0 : 0 ≤ m.cols) (h1 : m.cols ≤ 4096) (h : m.rows.length ≤ 4096) : checkM m = rfrom m.cols m.rows 0 := by unfold checkM; rw [if_neg (by omega), if_neg (by omega)]

set_option maxRecDepth 100000 in
set_option maxHeartbeats 2000000 in
theorem check_calls {S : Nat → Prop} {w : World} {v : Value} {m : Mx} (h : MatV S w v m) :
    Calls Try.prog 40 #[v] w (Post w fun _ r => r = .int .i64 (checkM m)) := by
  obtain ⟨rv, rfl, hl⟩ := h
  obtain ⟨cols, ll⟩ := m
  obtain ⟨a, cap, rfl, ad, l1, lm⟩ := hl.form
  dsimp only at hl l1 ad ⊢
  unfold maxLen at lm
  obtain ⟨i, hi, hz1, hz2, hz3⟩ := info_parts info_ints
  have HQ := Lib.hid (idx_one Try.underlying22 hi hz2 ad)
  by_cases c0 : cols < 0
  · have R := Lib.hid (checkM_cols (m := ⟨cols, ll⟩) (.inl c0))
    clear hi hz1 hz2 hz3
    go_enter Try.func40, Try.ntmps40
    go_wp2
    go_ret
    exact .mk (ext_alloc w _) (int_eq R.out.symm)
  by_cases c1 : 4096 < cols
  · have R := Lib.hid (checkM_cols (m := ⟨cols, ll⟩) (.inr c1))
    clear hi hz1 hz2 hz3
    go_enter Try.func40, Try.ntmps40
    go_wp2
    go_ret
    exact .mk (ext_alloc w _) (int_eq R.out.symm)
  by_cases c2 : 4096 < ll.length
  · have R := Lib.hid (checkM_many (m := ⟨cols, ll⟩) (by simp; omega) (by simp; omega) c2)
    clear hi hz1 hz2 hz3
    go_enter Try.func40, Try.ntmps40
    go_wp2
    go_ret
    exact .mk (ext_alloc w _) (int_eq R.out.symm)
  have R := Lib.hid (checkM_rows (m := ⟨cols, ll⟩) (by simp; omega) (by simp; omega) (by simp; omega))
  obtain ⟨E, hE⟩ : ∃ E, E = checkM ⟨cols, ll⟩ := ⟨_, rfl⟩
  rw [← hE]
  have HE : Hid (E = rfrom cols ll 0) := Lib.hid (hE.trans R.out)
  clear hi hz1 hz2 hz3 hE R
  have r0 := row_new w [.int .i64 cols, .slice a ll.length cap] 24
  go_enter Try.func40, Try.ntmps40
  go_wp2
  go_loopw [23] (fun i wr => ∃ k : Nat, k ≤ ll.length ∧ i = .int .i64 k ∧ Below w.heap.size w wr ∧ Row wr w.heap.size 24 [.int .i64 cols, .slice a ll.length cap] ∧ Hid (E = rfrom cols ll k)) (fun i _ => ll.length - (intOf i).toNat)
  case atStart => exact ⟨0, Nat.zero_le _, rfl, ext_alloc w _, r0, HE⟩
  case round =>
    obtain ⟨k, hk, rfl, hb, hr, hF⟩ := hrel
    obtain ⟨q0, q1⟩ := hr.two
    by_cases hlt : k < ll.length
    · have q := HQ.out k hlt
      obtain ⟨u, cu, iu⟩ := hl.at hb hlt
      go_wp2_with fail
      refine (vector_calls iu cols).mono ?_
      rintro _ w1 ⟨_, rfl, hb1, rfl⟩
      by_cases h1 : vecE cols (nthL ll k) = 0
      · have e1 : (vecE cols (nthL ll k) != 0) = false := by simp [h1]
        have HR := Lib.hid (hF.out.trans (rfrom_next hlt h1))
        clear h1
        go_wp2
        go_roundw
        case rel => exact ⟨k + 1, by omega, by go_num, ext_trans hb hb1, hr.ext hb1, HR⟩
        case measure => simp [intOf]; omega
      · have e1 : (vecE cols (nthL ll k) != 0) = true := by simp [h1]
        have HR := Lib.hid (hF.out.trans (rfrom_err hlt rfl h1))
        clear h1
        go_wp2
        go_ret
        exact .mk (ext_trans hb hb1) (int_eq HR.out.symm)
    · have HR := Lib.hid (hF.out.trans (rfrom_end (by omega)))
      go_wp2
      go_ret
      exact .mk hb (int_eq HR.out.symm)
end Go.Proofs.Ytijmjliijjkcbaa
