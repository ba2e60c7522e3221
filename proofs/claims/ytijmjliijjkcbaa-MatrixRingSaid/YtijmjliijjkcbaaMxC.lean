/- The errors of vectors, in the program and in the reference. Matrices that lie in memory; their errors, in the program and in the reference. The reference's errors of matrices; when two matrices are the same; when one is small. The reference: errors of two matrices, equality, size. When a matrix is small. Several matrices: when all are small. -/
import Derived.Test.YtijmjliijjkcbaaMxA
import Derived.Test.YtijmjliijjkcbaaSlices
import Derived.Deep.DrawnRows
/- The errors of vectors, in the program and in the reference. -/
namespace Go.Proofs.Ytijmjliijjkcbaa
set_option linter.unusedVariables false
open Go.RowKit
attribute [local go_sem ↓] Go.wp_at_zero Go.wp_at_succ

/-- The place of the element before. -/
theorem idx_prev {P : Program} {S : Nat → Prop} {w : World} {T E : TypeId} {i : TypeInfo} (hT : P.underlying T = some (.slice E)) (hi : P.info? E = some i) (h1 : i.size = 1) {a : Option Addr} {n cap : Nat} (h : Ad S w a n cap) (k : Nat) (h0 : 0 < k) (hk : k < n) :
    ∀ W : World, (Instr.indexAt T (.slice a n cap) (.int .i64 ((k : Int) - 1))).run P W = .ok (.pointer (some (adr a (k - 1)))) W := by
  intro W
  have := idx_one hT hi h1 h (k - 1) (by omega) W
  rw [show (((k - 1 : Nat)) : Int) = (k : Int) - 1 by omega] at this
  exact this

set_option maxRecDepth 100000 in
set_option maxHeartbeats 2000000 in
theorem vector_calls {S : Nat → Prop} {w : World} {v : Value} {l : List Int} (h : Ints S w v l) (n : Int) :
    Calls Try.prog 54 #[v, .int .i64 n] w (Post w fun _ r => r = .int .i64 (vecE n l)) := by
  obtain ⟨a, cap, rfl, ad, l1, lm, hc, hwf⟩ := h
  unfold maxLen at lm
  obtain ⟨i, hi, hz1, hz2, hz3⟩ := info_parts info_int
  have HQ := Lib.hid (idx_one Try.underlying38 hi hz2 ad)
  have HP := Lib.hid (idx_prev Try.underlying38 hi hz2 ad)
  have HC := Lib.hid hc
  obtain ⟨E, hE⟩ : ∃ E, E = vecE n l := ⟨_, rfl⟩
  rw [← hE]
  have HE := Lib.hid hE
  clear hc hE hwf
  go_enter Try.func54, Try.ntmps54
  go_wp2
  go_loopw [9] (fun i wr => ∃ k : Nat, k ≤ l.length ∧ i = .int .i64 k ∧ Below w.heap.size w wr ∧ Hid (E = vfrom n l k)) (fun i _ => l.length - (intOf i).toNat)
  case atStart => exact ⟨0, Nat.zero_le _, rfl, .refl _ _, HE⟩
  case round =>
    obtain ⟨k, hk, rfl, hb, hF⟩ := hrel
    by_cases hlt : k < l.length
    · have q := HQ.out k hlt
      have c := cells_at ad hb HC.out k hlt
      have hst : ∀ x, vstep n l k = x → x ≠ 0 → Hid (E = x) := fun x hx h0 => Lib.hid (hF.out.trans (vfrom_err hlt hx h0))
      have hnx : vstep n l k = 0 → Hid (E = vfrom n l (k + 1)) := fun hx => Lib.hid (hF.out.trans (vfrom_next hlt hx))
      obtain ⟨x, hx⟩ : ∃ x, x = nth l k := ⟨_, rfl⟩
      rw [← hx] at c
      by_cases h1 : x < 0
      · have HR := hst 2 (by unfold vstep; rw [if_pos (by omega)]) (by omega)
        clear hst hnx hx
        go_wp2
        go_ret
        exact .mk hb (int_eq HR.out.symm)
      by_cases h2 : n ≤ x
      · have HR := hst 2 (by unfold vstep; rw [if_pos (by omega)]) (by omega)
        clear hst hnx hx
        go_wp2
        go_ret
        exact .mk hb (int_eq HR.out.symm)
      by_cases h3 : k = 0
      · have HR := hnx (by unfold vstep; rw [if_neg (by omega), if_neg (by omega)])
        subst h3
        rw [show (((0 : Nat)) : Int) = 0 from rfl] at q
        clear hst hnx hx hF
        go_wp2
        go_roundw
        case rel => exact ⟨1, by omega, by go_num, hb, HR⟩
        case measure => simp [intOf]; omega
      have hkp : 0 < k := by omega
      have qp := HP.out k hkp hlt
      have cp := cells_at ad hb HC.out (k - 1) (by omega)
      obtain ⟨y, hy⟩ : ∃ y, y = nth l (k - 1) := ⟨_, rfl⟩
      rw [← hy] at cp
      have hk1 : (1 : Int) ≤ (k : Int) := by omega
      have hk0 : (0 : Int) < (k : Int) := by omega
      by_cases h4 : x ≤ y
      · have HR := hst 14 (by unfold vstep; rw [if_neg (by omega), if_pos (by omega)]) (by omega)
        clear hst hnx hx hy h3
        go_wp2
        go_ret
        exact .mk hb (int_eq HR.out.symm)
      · have HR := hnx (by unfold vstep; rw [if_neg (by omega), if_neg (by omega)])
        clear hst hnx hx hy hF h3
        go_wp2
        go_roundw
        case rel => exact ⟨k + 1, by omega, by go_num, hb, HR⟩
        case measure => simp [intOf]; omega
    · have HR := Lib.hid (hF.out.trans (vfrom_end (by omega)))
      clear hF
      go_wp2
      go_ret
      exact .mk hb (int_eq HR.out.symm)
end Go.Proofs.Ytijmjliijjkcbaa
/- Matrices that lie in memory; their errors, in the program and in the reference. -/
namespace Go.Proofs.Ytijmjliijjkcbaa
set_option linter.unusedVariables false
open Go.RowKit
attribute [local go_sem ↓] Go.wp_at_zero Go.wp_at_succ

/-- The value reads as the matrix, in blocks of S. -/
def MatV (S : Nat → Prop) (w : World) (v : Value) (m : Mx) : Prop := ∃ rv, v = .agg #[.int .i64 m.cols, rv] ∧ Lists S w rv m.rows
theorem MatV.agree {S : Nat → Prop} {w w' : World} {v : Value} {m : Mx} (h : MatV S w v m) (hw : Agree S w w') : MatV S w' v m := by
  obtain ⟨rv, rfl, h⟩ := h; exact ⟨rv, rfl, h.agree hw⟩
theorem MatV.mono {S S' : Nat → Prop} {w : World} {v : Value} {m : Mx} (h : MatV S w v m) (hS : ∀ b, S b → S' b) : MatV S' w v m := by
  obtain ⟨rv, rfl, h⟩ := h; exact ⟨rv, rfl, h.mono hS⟩
theorem MatV.ext {S : Nat → Prop} {w w' : World} {v : Value} {m : Mx} (h : MatV S w v m) (hw : Below w.heap.size w w') : MatV S w' v m := h.agree (.of_ext hw)

theorem ext_alloc (w : World) (o : Obj) : Below w.heap.size w (w.alloc o) := (Below.refl _ _).alloc (Nat.le_refl _) _
theorem ext_alloc' {a w : World} (h : Below a.heap.size a w) (o : Obj) : Below a.heap.size a (w.alloc o) := h.alloc h.size _
theorem row_new (w : World) (xs : List Value) (e : TypeId) : Row (w.alloc (.cells xs.toArray e)) w.heap.size e xs := by
  unfold Row
  rw [heap_alloc_new]
theorem Row.two {w : World} {g : Nat} {e : TypeId} {x y : Value} (h : Row w g e [x, y]) : w.cell? ⟨g, 0, none⟩ = some x ∧ w.cell? ⟨g, 1, none⟩ = some y := ⟨h.cell rfl, h.cell rfl⟩

theorem info_ints : (Try.prog.info? 38).map (fun i => (i.zero, i.size, i.bytes)) = some (some (.slice none 0 0), 1, 24) := by kernel_rfl

/-- The cells of a slice of slices, in a later world. -/
theorem Lists.at {S : Nat → Prop} {w wr : World} {a : Option Addr} {cap : Nat} {ll : List (List Int)} (h : Lists S w (.slice a ll.length cap) ll) (hb : Below w.heap.size w wr) {k : Nat} (hk : k < ll.length) :
    ∃ u, wr.cell? (adr a k) = some u ∧ Ints S wr u (nthL ll k) := by
  obtain ⟨a', cap', e, ha, _, _, hc⟩ := h
  simp only [Value.slice.injEq, true_and] at e
  obtain ⟨rfl, rfl⟩ := e
  obtain ⟨u, hu, hi⟩ := hc k hk
  exact ⟨u, (ha.cell (.of_ext hb) hk).trans hu, hi.ext hb⟩
theorem Lists.form {S : Nat → Prop} {w : World} {v : Value} {ll : List (List Int)} (h : Lists S w v ll) : ∃ a cap, v = .slice a ll.length cap ∧ Ad S w a ll.length cap ∧ ll.length ≤ cap ∧ cap ≤ maxLen := by
  obtain ⟨a, cap, rfl, ha, h1, h2, _⟩ := h
  exact ⟨a, cap, rfl, ha, h1, h2⟩
theorem Ints.form {S : Nat → Prop} {w : World} {v : Value} {l : List Int} (h : Ints S w v l) : ∃ a cap, v = .slice a l.length cap ∧ Ad S w a l.length cap ∧ l.length ≤ cap ∧ cap ≤ maxLen := by
  obtain ⟨a, cap, rfl, ha, h1, h2, _⟩ := h
  exact ⟨a, cap, rfl, ha, h1, h2⟩

theorem checkM_cols {m : Mx} (h : m.cols < 0 ∨ 4096 < m.cols) : checkM m = 2 := by unfold checkM; rw [if_pos h]
theorem checkM_many {m : Mx} (h0 : 0 ≤ m.cols) (h1 : m.cols ≤ 4096) (h : 4096 < m.rows.length) : checkM m = 5 := by unfold checkM; rw [if_neg (by omega), if_pos h]
theorem checkM_rows {m : Mx} (h0 : 0 ≤ m.cols) (h1 : m.cols ≤ 4096) (h : m.rows.length ≤ 4096) : checkM m = rfrom m.cols m.rows 0 := by unfold checkM; rw [if_neg (by omega), if_neg (by omega)]

set_option maxRecDepth 100000 in
set_option maxHeartbeats 2000000 in
theorem check_calls {S : Nat → Prop} {w : World} {v : Value} {m : Mx} (h : MatV S w v m) :
    Calls Try.prog 40 #[v] w (Post w fun _ r => r = .int .i64 (checkM m)) := by
  obtain ⟨rv, rfl, hl⟩ := h
  obtain ⟨cols, ll⟩ := m
  obtain ⟨a, cap, rfl, ad, l1, lm⟩ := hl.form
  dsimp only at hl l1 ad ⊢
  unfold maxLen at lm
  obtain ⟨i, hi, hz1, hz2, hz3⟩ := info_parts info_ints
  have HQ := Lib.hid (idx_one Try.underlying22 hi hz2 ad)
  by_cases c0 : cols < 0
  · have R := Lib.hid (checkM_cols (m := ⟨cols, ll⟩) (.inl c0))
    clear hi hz1 hz2 hz3
    go_enter Try.func40, Try.ntmps40
    go_wp2
    go_ret
    exact .mk (ext_alloc w _) (int_eq R.out.symm)
  by_cases c1 : 4096 < cols
  · have R := Lib.hid (checkM_cols (m := ⟨cols, ll⟩) (.inr c1))
    clear hi hz1 hz2 hz3
    go_enter Try.func40, Try.ntmps40
    go_wp2
    go_ret
    exact .mk (ext_alloc w _) (int_eq R.out.symm)
  by_cases c2 : 4096 < ll.length
  · have R := Lib.hid (checkM_many (m := ⟨cols, ll⟩) (by simp; omega) (by simp; omega) c2)
    clear hi hz1 hz2 hz3
    go_enter Try.func40, Try.ntmps40
    go_wp2
    go_ret
    exact .mk (ext_alloc w _) (int_eq R.out.symm)
  have R := Lib.hid (checkM_rows (m := ⟨cols, ll⟩) (by simp; omega) (by simp; omega) (by simp; omega))
  obtain ⟨E, hE⟩ : ∃ E, E = checkM ⟨cols, ll⟩ := ⟨_, rfl⟩
  rw [← hE]
  have HE : Hid (E = rfrom cols ll 0) := Lib.hid (hE.trans R.out)
  clear hi hz1 hz2 hz3 hE R
  have r0 := row_new w [.int .i64 cols, .slice a ll.length cap] 24
  go_enter Try.func40, Try.ntmps40
  go_wp2
  go_loopw [23] (fun i wr => ∃ k : Nat, k ≤ ll.length ∧ i = .int .i64 k ∧ Below w.heap.size w wr ∧ Row wr w.heap.size 24 [.int .i64 cols, .slice a ll.length cap] ∧ Hid (E = rfrom cols ll k)) (fun i _ => ll.length - (intOf i).toNat)
  case atStart => exact ⟨0, Nat.zero_le _, rfl, ext_alloc w _, r0, HE⟩
  case round =>
    obtain ⟨k, hk, rfl, hb, hr, hF⟩ := hrel
    obtain ⟨q0, q1⟩ := hr.two
    by_cases hlt : k < ll.length
    · have q := HQ.out k hlt
      obtain ⟨u, cu, iu⟩ := hl.at hb hlt
      go_wp2_with fail
      refine (vector_calls iu cols).mono ?_
      rintro _ w1 ⟨_, rfl, hb1, rfl⟩
      by_cases h1 : vecE cols (nthL ll k) = 0
      · have e1 : (vecE cols (nthL ll k) != 0) = false := by simp [h1]
        have HR := Lib.hid (hF.out.trans (rfrom_next hlt h1))
        clear h1
        go_wp2
        go_roundw
        case rel => exact ⟨k + 1, by omega, by go_num, ext_trans hb hb1, hr.ext hb1, HR⟩
        case measure => simp [intOf]; omega
      · have e1 : (vecE cols (nthL ll k) != 0) = true := by simp [h1]
        have HR := Lib.hid (hF.out.trans (rfrom_err hlt rfl h1))
        clear h1
        go_wp2
        go_ret
        exact .mk (ext_trans hb hb1) (int_eq HR.out.symm)
    · have HR := Lib.hid (hF.out.trans (rfrom_end (by omega)))
      go_wp2
      go_ret
      exact .mk hb (int_eq HR.out.symm)
end Go.Proofs.Ytijmjliijjkcbaa
/- The reference's errors of matrices; when two matrices are the same; when one is small. -/
namespace Go.Proofs.Ytijmjliijjkcbaa
set_option linter.unusedVariables false
open Go.RowKit
attribute [local go_sem ↓] Go.wp_at_zero Go.wp_at_succ

def bothM (a b : Mx) : Int := if checkM a ≠ 0 then checkM a else checkM b
theorem bothM_err {a b : Mx} (h : checkM a ≠ 0) : bothM a b = checkM a := by unfold bothM; rw [if_pos h]
theorem bothM_ok {a b : Mx} (h : checkM a = 0) : bothM a b = checkM b := by unfold bothM; rw [if_neg (by simp [h])]
theorem bothM_zero {a b : Mx} : bothM a b = 0 ↔ checkM a = 0 ∧ checkM b = 0 := by
  unfold bothM
  split
  · rename_i h; constructor
    · intro h2; exact absurd h2 h
    · intro h2; exact h2.1
  · rename_i h; constructor
    · intro h2; exact ⟨Classical.not_not.1 h, h2⟩
    · intro h2; exact h2.2

set_option maxRecDepth 100000 in
set_option maxHeartbeats 1000000 in
theorem both_calls {S S' : Nat → Prop} {w : World} {va vb : Value} {a b : Mx} (ha : MatV S w va a) (hb : MatV S' w vb b) :
    Calls Try.prog 62 #[va, vb] w (Post w fun _ r => r = .int .i64 (bothM a b)) := by
  have ca := ha.ext (ext_alloc' (ext_alloc w (.cells #[] 3)) (.cells #[] 3))
  obtain ⟨ra, rfl, la⟩ := ha
  obtain ⟨rb, rfl, lb⟩ := hb
  have hE : ∀ (x y : Obj), Below w.heap.size w ((w.alloc x).alloc y) := fun x y => ext_alloc' (ext_alloc w x) y
  have r0 := row_new (w.alloc (.cells #[.int .i64 a.cols, ra] 24)) [.int .i64 b.cols, rb] 24
  have ex := hE (.cells #[.int .i64 a.cols, ra] 24) (.cells #[.int .i64 b.cols, rb] 24)
  have KA := Lib.hid (check_calls (v := .agg #[.int .i64 a.cols, ra]) (m := a) ⟨ra, rfl, la.ext ex⟩)
  clear hE
  go_enter Try.func62, Try.ntmps62
  go_wp2_with fail
  refine KA.out.mono ?_
  rintro _ w1 ⟨_, rfl, hb1, rfl⟩
  have hx1 := ext_trans ex hb1
  have r1 := r0.ext hb1
  rw [World.size_alloc] at r1
  obtain ⟨q0, q1⟩ := r1.two
  by_cases h1 : checkM a = 0
  · have e1 : (checkM a != 0) = false := by simp [h1]
    have R := Lib.hid (bothM_ok (b := b) h1)
    have KB := Lib.hid (check_calls (v := .agg #[.int .i64 b.cols, rb]) (m := b) ⟨rb, rfl, lb.ext hx1⟩)
    clear h1
    go_wp2_with fail
    refine KB.out.mono ?_
    rintro _ w2 ⟨_, rfl, hb2, rfl⟩
    go_wp2
    go_ret
    exact .mk (ext_trans hx1 hb2) (int_eq R.out.symm)
  · have e1 : (checkM a != 0) = true := by simp [h1]
    have R := Lib.hid (bothM_err (b := b) h1)
    clear h1
    go_wp2
    go_ret
    exact .mk hx1 (int_eq R.out.symm)

set_option maxRecDepth 100000 in
set_option maxHeartbeats 2000000 in
theorem refVector_quiet {S : Nat → Prop} {w : World} {v : Value} {l : List Int} (h : Ints S w v l) (n : Int) :
    Calls Try.prog 30 #[.int .i64 n, v] w (QuietP w (.int .i64 (vecE n l))) := by
  obtain ⟨a, cap, rfl, ad, l1, lm, hc, hwf⟩ := h
  unfold maxLen at lm
  obtain ⟨i, hi, hz1, hz2, hz3⟩ := info_parts info_int
  have HQ := Lib.hid (idx_one Try.underlying38 hi hz2 ad)
  have HP := Lib.hid (idx_prev Try.underlying38 hi hz2 ad)
  have HC := Lib.hid hc
  obtain ⟨E, hE⟩ : ∃ E, E = vecE n l := ⟨_, rfl⟩
  rw [← hE]
  have HE := Lib.hid hE
  clear hc hE hwf
  go_enter Try.func30, Try.ntmps30
  go_wp2
  go_loopw [5] (fun i wr => ∃ k : Nat, k ≤ l.length ∧ i = .int .i64 k ∧ (∃ m, wr = w.drewN m) ∧ Hid (E = vfrom n l k)) (fun i _ => l.length - (intOf i).toNat)
  case atStart => exact ⟨0, Nat.zero_le _, rfl, ⟨0, rfl⟩, HE⟩
  case round =>
    obtain ⟨k, hk, rfl, ⟨m, rfl⟩, hF⟩ := hrel
    by_cases hlt : k < l.length
    · have q := HQ.out k hlt
      have c := HC.out k hlt
      have hst : ∀ x, vstep n l k = x → x ≠ 0 → Hid (E = x) := fun x hx h0 => Lib.hid (hF.out.trans (vfrom_err hlt hx h0))
      have hnx : vstep n l k = 0 → Hid (E = vfrom n l (k + 1)) := fun hx => Lib.hid (hF.out.trans (vfrom_next hlt hx))
      obtain ⟨x, hx⟩ : ∃ x, x = nth l k := ⟨_, rfl⟩
      rw [← hx] at c
      by_cases h1 : x < 0
      · have HR := hst 2 (by unfold vstep; rw [if_pos (by omega)]) (by omega)
        clear hst hnx hx
        go_wp2
        go_ret
        exact .of (int_eq HR.out.symm) _
      by_cases h2 : n ≤ x
      · have HR := hst 2 (by unfold vstep; rw [if_pos (by omega)]) (by omega)
        clear hst hnx hx
        go_wp2
        go_ret
        exact .of (int_eq HR.out.symm) _
      by_cases h3 : k = 0
      · have HR := hnx (by unfold vstep; rw [if_neg (by omega), if_neg (by omega)])
        subst h3
        rw [show (((0 : Nat)) : Int) = 0 from rfl] at q
        clear hst hnx hx hF
        go_wp2
        go_quiet (fail)
        go_wp2
        go_roundw
        case rel => exact ⟨1, by omega, by go_num, ⟨_, rfl⟩, HR⟩
        case measure => simp [intOf]; omega
      have hkp : 0 < k := by omega
      have qp := HP.out k hkp hlt
      have cp := HC.out (k - 1) (by omega)
      obtain ⟨y, hy⟩ : ∃ y, y = nth l (k - 1) := ⟨_, rfl⟩
      rw [← hy] at cp
      have hk1 : (1 : Int) ≤ (k : Int) := by omega
      have hk0 : (0 : Int) < (k : Int) := by omega
      have hwr : IntKind.i64.wrap ((k : Int) - 1) = (k : Int) - 1 := IntWalk.i64_in _ (by omega)
      by_cases h4 : x ≤ y
      · have HR := hst 14 (by unfold vstep; rw [if_neg (by omega), if_pos (by omega)]) (by omega)
        clear hst hnx hx hy h3
        go_wp2
        go_quiet (fail)
        go_wp2
        go_ret
        rw [World.drewN_drewN]; exact .of (int_eq HR.out.symm) _
      · have HR := hnx (by unfold vstep; rw [if_neg (by omega), if_neg (by omega)])
        have h4' : decide (x ≤ y) = false := by simpa using h4
        clear hst hnx hx hy hF h3
        go_wp2
        go_quiet (fail)
        go_wp2
        go_roundw
        case rel => exact ⟨k + 1, by omega, by go_num, ⟨_, rfl⟩, HR⟩
        case measure => simp [intOf]; omega
    · have HR := Lib.hid (hF.out.trans (vfrom_end (by omega)))
      clear hF
      go_wp2
      go_ret
      exact .of (int_eq HR.out.symm) _
theorem refVector_calls {S : Nat → Prop} {w : World} {v : Value} {l : List Int} (h : Ints S w v l) (n : Int) :
    Calls Try.prog 30 #[.int .i64 n, v] w (Post w fun _ r => r = .int .i64 (vecE n l)) := (refVector_quiet h n).mono fun _ _ h => h.post

set_option maxRecDepth 100000 in
set_option maxHeartbeats 2000000 in
theorem refCheck_calls {S : Nat → Prop} {w : World} {v : Value} {m : Mx} (h : MatV S w v m) :
    Calls Try.prog 33 #[v] w (Post w fun _ r => r = .int .i64 (checkM m)) := by
  obtain ⟨rv, rfl, hl⟩ := h
  obtain ⟨cols, ll⟩ := m
  obtain ⟨a, cap, rfl, ad, l1, lm⟩ := hl.form
  dsimp only at hl l1 ad ⊢
  unfold maxLen at lm
  obtain ⟨i, hi, hz1, hz2, hz3⟩ := info_parts info_ints
  have HQ := Lib.hid (idx_one Try.underlying22 hi hz2 ad)
  by_cases c0 : cols < 0
  · have R := Lib.hid (checkM_cols (m := ⟨cols, ll⟩) (.inl c0))
    clear hi hz1 hz2 hz3
    go_enter Try.func33, Try.ntmps33
    go_wp2
    go_ret
    exact .mk (ext_alloc w _) (int_eq R.out.symm)
  by_cases c1 : 4096 < cols
  · have R := Lib.hid (checkM_cols (m := ⟨cols, ll⟩) (.inr c1))
    clear hi hz1 hz2 hz3
    go_enter Try.func33, Try.ntmps33
    go_wp2
    go_ret
    exact .mk (ext_alloc w _) (int_eq R.out.symm)
  by_cases c2 : 4096 < ll.length
  · have R := Lib.hid (checkM_many (m := ⟨cols, ll⟩) (by simp; omega) (by simp; omega) c2)
    clear hi hz1 hz2 hz3
    go_enter Try.func33, Try.ntmps33
    go_wp2
    go_ret
    exact .mk (ext_alloc w _) (int_eq R.out.symm)
  have R := Lib.hid (checkM_rows (m := ⟨cols, ll⟩) (by simp; omega) (by simp; omega) (by simp; omega))
  obtain ⟨E, hE⟩ : ∃ E, E = checkM ⟨cols, ll⟩ := ⟨_, rfl⟩
  rw [← hE]
  have HE : Hid (E = rfrom cols ll 0) := Lib.hid (hE.trans R.out)
  clear hi hz1 hz2 hz3 hE R
  have r0 := row_new w [.int .i64 cols, .slice a ll.length cap] 24
  go_enter Try.func33, Try.ntmps33
  go_wp2
  go_loopw [3] (fun i wr => ∃ k : Nat, k ≤ ll.length ∧ i = .int .i64 k ∧ Below w.heap.size w wr ∧ Row wr w.heap.size 24 [.int .i64 cols, .slice a ll.length cap] ∧ Hid (E = rfrom cols ll k)) (fun i _ => ll.length - (intOf i).toNat)
  case atStart => exact ⟨0, Nat.zero_le _, rfl, ext_alloc w _, r0, HE⟩
  case round =>
    obtain ⟨k, hk, rfl, hb, hr, hF⟩ := hrel
    obtain ⟨q0, q1⟩ := hr.two
    by_cases hlt : k < ll.length
    · have q := HQ.out k hlt
      obtain ⟨u, cu, iu⟩ := hl.at hb hlt
      have HV := Lib.hid (fun n => refVector_quiet (iu.drewN n) cols)
      by_cases h1 : vecE cols (nthL ll k) = 0
      · have e1 : (vecE cols (nthL ll k) != 0) = false := by simp [h1]
        have HR := Lib.hid (hF.out.trans (rfrom_next hlt h1))
        clear h1
        go_wp2_with fail
        go_quiet ((go_at_call 30; exact quiet_calls (HV.out _)))
        go_wp2
        go_roundw
        case rel => exact ⟨k + 1, by omega, by go_num, ext_drewN hb _, hr.ext (drewN_below _ _ _), HR⟩
        case measure => simp [intOf]; omega
      · have e1 : (vecE cols (nthL ll k) != 0) = true := by simp [h1]
        have HR := Lib.hid (hF.out.trans (rfrom_err hlt rfl h1))
        clear h1
        go_wp2_with fail
        go_quiet ((go_at_call 30; exact quiet_calls (HV.out _)))
        go_wp2
        go_ret
        exact .mk (ext_drewN hb _) (int_eq HR.out.symm)
    · have HR := Lib.hid (hF.out.trans (rfrom_end (by omega)))
      go_wp2
      go_ret
      exact .mk hb (int_eq HR.out.symm)
end Go.Proofs.Ytijmjliijjkcbaa
/- The reference: errors of two matrices, equality, size. -/
namespace Go.Proofs.Ytijmjliijjkcbaa
set_option linter.unusedVariables false
open Go.RowKit
attribute [local go_sem ↓] Go.wp_at_zero Go.wp_at_succ

set_option maxRecDepth 100000 in
set_option maxHeartbeats 1000000 in
theorem refBoth_calls {S S' : Nat → Prop} {w : World} {va vb : Value} {a b : Mx} (ha : MatV S w va a) (hb : MatV S' w vb b) :
    Calls Try.prog 45 #[va, vb] w (Post w fun _ r => r = .int .i64 (bothM a b)) := by
  obtain ⟨ra, rfl, la⟩ := ha
  obtain ⟨rb, rfl, lb⟩ := hb
  have hE : ∀ (x y : Obj), Below w.heap.size w ((w.alloc x).alloc y) := fun x y => ext_alloc' (ext_alloc w x) y
  have r0 := row_new (w.alloc (.cells #[.int .i64 a.cols, ra] 24)) [.int .i64 b.cols, rb] 24
  have ex := hE (.cells #[.int .i64 a.cols, ra] 24) (.cells #[.int .i64 b.cols, rb] 24)
  have KA := Lib.hid (refCheck_calls (v := .agg #[.int .i64 a.cols, ra]) (m := a) ⟨ra, rfl, la.ext ex⟩)
  clear hE
  go_enter Try.func45, Try.ntmps45
  go_wp2_with fail
  refine KA.out.mono ?_
  rintro _ w1 ⟨_, rfl, hb1, rfl⟩
  have hx1 := ext_trans ex hb1
  have r1 := r0.ext hb1
  rw [World.size_alloc] at r1
  obtain ⟨q0, q1⟩ := r1.two
  by_cases h1 : checkM a = 0
  · have e1 : (checkM a != 0) = false := by simp [h1]
    have R := Lib.hid (bothM_ok (b := b) h1)
    have KB := Lib.hid (refCheck_calls (v := .agg #[.int .i64 b.cols, rb]) (m := b) ⟨rb, rfl, lb.ext hx1⟩)
    clear h1
    go_wp2_with fail
    refine KB.out.mono ?_
    rintro _ w2 ⟨_, rfl, hb2, rfl⟩
    go_wp2
    go_ret
    exact .mk (ext_trans hx1 hb2) (int_eq R.out.symm)
  · have e1 : (checkM a != 0) = true := by simp [h1]
    have R := Lib.hid (bothM_err (b := b) h1)
    clear h1
    go_wp2
    go_ret
    exact .mk hx1 (int_eq R.out.symm)

set_option maxRecDepth 100000 in
theorem sameVector_quiet {S S' : Nat → Prop} {w : World} {v1 v2 : Value} {l1 l2 : List Int} (h1 : Ints S w v1 l1) (h2 : Ints S' w v2 l2) :
    Calls Try.prog 53 #[v1, v2] w (QuietP w (.bool (decide (l1 = l2)))) := by
  obtain ⟨a1, cap1, rfl, ha1, _, hm1, hc1, _⟩ := h1
  obtain ⟨a2, cap2, rfl, ha2, _, _, hc2, _⟩ := h2
  unfold maxLen at hm1
  obtain ⟨i0, hi, hz0, hz1, hz2⟩ := info_parts info_int
  have hix1 := Lib.hid (idx_one Try.underlying38 hi hz1 ha1)
  have hix2 := Lib.hid (idx_one Try.underlying38 hi hz1 ha2)
  clear hi hz0 hz1 hz2
  by_cases hlen : l1.length = l2.length
  · have hne : ((l1.length : Int) != l2.length) = false := by simp [hlen]
    have HL := Lib.hid hlen
    clear hlen
    go_enter Try.func53, Try.ntmps53
    go_wp2
    go_loopw [5] (fun i wr => ∃ k : Nat, k ≤ l1.length ∧ i = .int .i64 k ∧ (∃ m, wr = w.drewN m) ∧ Hid (l1.take k = l2.take k)) (fun i _ => l1.length - (intOf i).toNat)
    case atStart => exact ⟨0, by omega, rfl, ⟨0, rfl⟩, Lib.hid rfl⟩
    case round =>
      obtain ⟨k, hk, rfl, ⟨m, rfl⟩, H⟩ := hrel
      by_cases hlt : k < l1.length
      · have hlt2 : k < l2.length := by have := HL.out; omega
        have q1 := hix1.out k hlt
        have q2 := hix2.out k hlt2
        have p1 := hc1 k hlt
        have p2 := hc2 k hlt2
        clear hc1 hc2
        by_cases he : nth l1 k = nth l2 k
        · have he' : (nth l1 k != nth l2 k) = false := by simp [he]
          have HE := Lib.hid he
          clear he
          go_wp2
          go_quiet (fail)
          go_wp2
          go_roundw
          case rel => exact ⟨k + 1, by omega, by go_num, ⟨_, rfl⟩, Lib.hid (take_eq_step hlt hlt2 H.out HE.out)⟩
          case measure => simp [intOf]; omega
        · have he' : (nth l1 k != nth l2 k) = true := by simp [he]
          go_wp2
          go_quiet (fail)
          go_wp2
          go_ret
          rw [World.drewN_drewN]
          exact .of (bool_eq (decide_eq_false (fun (e : l1 = l2) => he (by rw [e]))).symm) _
      · go_wp2
        go_ret
        refine .of (bool_eq ?_) _
        have := H.out
        have h2 := HL.out
        rw [List.take_of_length_le (by omega), List.take_of_length_le (by omega)] at this
        exact (decide_eq_true this).symm
  · have hne : ((l1.length : Int) != l2.length) = true := by simp; omega
    go_enter Try.func53, Try.ntmps53
    go_wp2
    go_ret
    exact .of (bool_eq (decide_eq_false (fun (e : l1 = l2) => hlen (by rw [e]))).symm) 0

theorem take_eq_stepL {l1 l2 : List (List Int)} {k : Nat} (hk1 : k < l1.length) (hk2 : k < l2.length) (h : l1.take k = l2.take k) (e : nthL l1 k = nthL l2 k) : l1.take (k + 1) = l2.take (k + 1) := by
  rw [take_nthL hk1, take_nthL hk2, h, e]
def sameM (a b : Mx) : Bool := decide (a.cols = b.cols) && decide (a.rows = b.rows)
theorem sameM_iff {a b : Mx} : sameM a b = true ↔ a = b := by
  obtain ⟨ac, ar⟩ := a
  obtain ⟨bc, br⟩ := b
  simp [sameM]

set_option maxRecDepth 100000 in
set_option maxHeartbeats 2000000 in
theorem same_calls {S S' : Nat → Prop} {w : World} {va vb : Value} {a b : Mx} (ha : MatV S w va a) (hb : MatV S' w vb b) :
    Calls Try.prog 22 #[va, vb] w (Post w fun _ r => r = .bool (sameM a b)) := by
  obtain ⟨ac, al⟩ := a
  obtain ⟨bc, bl⟩ := b
  obtain ⟨ra, rfl, la⟩ := ha
  obtain ⟨rb, rfl, lb⟩ := hb
  obtain ⟨aa, acap, rfl, aad, al1, alm⟩ := la.form
  obtain ⟨ba, bcap, rfl, bad, bl1, blm⟩ := lb.form
  dsimp only at la lb al1 bl1 aad bad ⊢
  unfold maxLen at alm blm
  obtain ⟨i, hi, hz1, hz2, hz3⟩ := info_parts info_ints
  have HQ := Lib.hid (idx_one Try.underlying22 hi hz2 aad)
  have HP := Lib.hid (idx_one Try.underlying22 hi hz2 bad)
  clear hi hz1 hz2 hz3
  have ex : Below w.heap.size w ((w.alloc (.cells #[.int .i64 ac, .slice aa al.length acap] 24)).alloc (.cells #[.int .i64 bc, .slice ba bl.length bcap] 24)) := ext_alloc' (ext_alloc w _) _
  by_cases hc : ¬ ac = bc
  · have e1 : (ac != bc) = true := by simp [hc]
    have R : Hid (sameM ⟨ac, al⟩ ⟨bc, bl⟩ = false) := Lib.hid (by simp [sameM, hc])
    clear hc
    go_enter Try.func22, Try.ntmps22
    go_wp2
    go_ret
    exact .mk ex (bool_eq R.out.symm)
  have hc := Classical.not_not.1 hc
  have e1 : (ac != bc) = false := by simp [hc]
  have HC := Lib.hid hc
  clear hc
  by_cases hlen : ¬ al.length = bl.length
  · have e2 : ((al.length : Int) != bl.length) = true := by simp; omega
    have R : Hid (sameM ⟨ac, al⟩ ⟨bc, bl⟩ = false) := Lib.hid (by simp [sameM]; intro _ h; exact hlen (by rw [h]))
    clear hlen
    go_enter Try.func22, Try.ntmps22
    go_wp2
    go_ret
    exact .mk ex (bool_eq R.out.symm)
  have hlen := Classical.not_not.1 hlen
  have e2 : ((al.length : Int) != bl.length) = false := by simp [hlen]
  have HL := Lib.hid hlen
  clear hlen
  obtain ⟨R, hR⟩ : ∃ R, R = sameM ⟨ac, al⟩ ⟨bc, bl⟩ := ⟨_, rfl⟩
  have HRb : Hid (R = decide (al = bl)) := Lib.hid (by rw [hR]; simp [sameM, HC.out])
  rw [← hR]
  clear hR
  have r0 := (row_new w [.int .i64 ac, .slice aa al.length acap] 24).alloc (.cells #[.int .i64 bc, .slice ba bl.length bcap] 24)
  have r1 := row_new (w.alloc (.cells #[.int .i64 ac, .slice aa al.length acap] 24)) [.int .i64 bc, .slice ba bl.length bcap] 24
  rw [World.size_alloc] at r1
  go_enter Try.func22, Try.ntmps22
  go_wp2
  go_loopw [5] (fun i wr => ∃ k : Nat, k ≤ al.length ∧ i = .int .i64 k ∧ Below w.heap.size w wr ∧ Row wr w.heap.size 24 [.int .i64 ac, .slice aa al.length acap] ∧ Row wr (w.heap.size + 1) 24 [.int .i64 bc, .slice ba bl.length bcap] ∧ Hid (al.take k = bl.take k)) (fun i _ => al.length - (intOf i).toNat)
  case atStart => exact ⟨0, Nat.zero_le _, rfl, ex, r0, r1, Lib.hid rfl⟩
  case round =>
    obtain ⟨k, hk, rfl, hb, hr0, hr1, H⟩ := hrel
    obtain ⟨q0, q1⟩ := hr0.two
    obtain ⟨q2, q3⟩ := hr1.two
    by_cases hlt : k < al.length
    · have hlt2 : k < bl.length := by have := HL.out; omega
      have qa := HQ.out k hlt
      have qb := HP.out k hlt2
      obtain ⟨u, cu, iu⟩ := la.at hb hlt
      obtain ⟨v, cv, iv⟩ := lb.at hb hlt2
      have HS := Lib.hid (fun n => sameVector_quiet (iu.drewN n) (iv.drewN n))
      by_cases he : nthL al k = nthL bl k
      · have d1 : decide (nthL al k = nthL bl k) = true := decide_eq_true he
        have HE := Lib.hid he
        clear he
        go_wp2_with fail
        go_quiet ((go_at_call 53; exact quiet_calls (HS.out _)))
        go_wp2
        go_roundw
        case rel => exact ⟨k + 1, by omega, by go_num, ext_drewN hb _, hr0.ext (drewN_below _ _ _), hr1.ext (drewN_below _ _ _), Lib.hid (take_eq_stepL hlt hlt2 H.out HE.out)⟩
        case measure => simp [intOf]; omega
      · have d1 : decide (nthL al k = nthL bl k) = false := decide_eq_false he
        have HR : Hid (R = false) := Lib.hid (by rw [HRb.out]; exact decide_eq_false fun e => he (by rw [e]))
        clear he
        go_wp2_with fail
        go_quiet ((go_at_call 53; exact quiet_calls (HS.out _)))
        go_wp2
        go_ret
        exact .mk (ext_drewN hb _) (bool_eq HR.out.symm)
    · have HR : Hid (R = true) := Lib.hid (by
        have := H.out
        have h2 := HL.out
        rw [List.take_of_length_le (by omega), List.take_of_length_le (by omega)] at this
        rw [HRb.out]; exact decide_eq_true this)
      go_wp2
      go_ret
      exact .mk hb (bool_eq HR.out.symm)
end Go.Proofs.Ytijmjliijjkcbaa
/- When a matrix is small. -/
namespace Go.Proofs.Ytijmjliijjkcbaa
set_option linter.unusedVariables false
open Go.RowKit
attribute [local go_sem ↓] Go.wp_at_zero Go.wp_at_succ

def oddSize (m : Mx) : Bool := decide (4096 < m.rows.length) || decide (m.cols < 0) || decide (4096 < m.cols)
def fewM (m : Mx) : Bool := oddSize m || ((m.rows.take 20).all (fun r => decide (r.length ≤ 20)) && (decide (m.rows.length ≤ 14) && decide (m.cols ≤ 14)))
theorem fewM_odd {m : Mx} (h : oddSize m = true) : fewM m = true := by unfold fewM; rw [h]; rfl
theorem fewM_long {m : Mx} (h : oddSize m = false) {k : Nat} (h1 : k < m.rows.length) (h2 : k < 20) (h3 : 20 < (nthL m.rows k).length) : fewM m = false := by
  have : (m.rows.take 20).all (fun r => decide (r.length ≤ 20)) = false := by
    rw [List.all_eq_false]
    refine ⟨nthL m.rows k, ?_, by simp; omega⟩
    rw [nthL_eq h1, List.mem_take_iff_getElem]
    exact ⟨k, by omega, rfl⟩
  unfold fewM
  rw [h, this]; rfl
theorem fewM_short {m : Mx} (h : oddSize m = false) (h1 : ∀ j, j < m.rows.length → j < 20 → (nthL m.rows j).length ≤ 20) : fewM m = (decide (m.rows.length ≤ 14) && decide (m.cols ≤ 14)) := by
  have : (m.rows.take 20).all (fun r => decide (r.length ≤ 20)) = true := by
    rw [List.all_eq_true]
    intro r hr
    rw [List.mem_take_iff_getElem] at hr
    obtain ⟨k, hk, rfl⟩ := hr
    have := h1 k (by omega) (by omega)
    rw [nthL_eq (by omega)] at this
    simpa using this
  unfold fewM
  rw [h, this]; rfl

set_option maxRecDepth 100000 in
set_option maxHeartbeats 2000000 in
theorem refFew_calls {S : Nat → Prop} {w : World} {v : Value} {m : Mx} (h : MatV S w v m) :
    Calls Try.prog 46 #[v] w (Post w fun _ r => r = .bool (fewM m)) := by
  obtain ⟨rv, rfl, hl⟩ := h
  obtain ⟨cols, ll⟩ := m
  obtain ⟨a, cap, rfl, ad, l1, lm⟩ := hl.form
  dsimp only at hl l1 ad ⊢
  unfold maxLen at lm
  obtain ⟨i, hi, hz1, hz2, hz3⟩ := info_parts info_ints
  have HQ := Lib.hid (idx_one Try.underlying22 hi hz2 ad)
  clear hi hz1 hz2 hz3
  obtain ⟨E, hE⟩ : ∃ E, E = fewM ⟨cols, ll⟩ := ⟨_, rfl⟩
  rw [← hE]
  by_cases c2 : 4096 < ll.length
  · have R : Hid (E = true) := Lib.hid (by rw [hE]; exact fewM_odd (by simp [oddSize, c2]))
    clear hE
    go_enter Try.func46, Try.ntmps46
    go_wp2
    go_ret
    exact .mk (ext_alloc w _) (bool_eq R.out.symm)
  by_cases c0 : cols < 0
  · have R : Hid (E = true) := Lib.hid (by rw [hE]; exact fewM_odd (by simp [oddSize, c0]))
    clear hE
    go_enter Try.func46, Try.ntmps46
    go_wp2
    go_ret
    exact .mk (ext_alloc w _) (bool_eq R.out.symm)
  by_cases c1 : 4096 < cols
  · have R : Hid (E = true) := Lib.hid (by rw [hE]; exact fewM_odd (by simp [oddSize, c1]))
    clear hE
    go_enter Try.func46, Try.ntmps46
    go_wp2
    go_ret
    exact .mk (ext_alloc w _) (bool_eq R.out.symm)
  have HO : Hid (oddSize ⟨cols, ll⟩ = false) := Lib.hid (by simp [oddSize]; omega)
  have HE := Lib.hid hE
  clear hE
  have r0 := row_new w [.int .i64 cols, .slice a ll.length cap] 24
  have fin : ∀ (k : Nat), (∀ j, j < ll.length → j < 20 → (nthL ll j).length ≤ 20) → Hid (E = (decide (ll.length ≤ 14) && decide (cols ≤ 14))) := fun k h => Lib.hid (HE.out.trans (fewM_short HO.out h))
  go_enter Try.func46, Try.ntmps46
  go_wp2
  go_loopw [3] (fun i wr => ∃ k : Nat, k ≤ ll.length ∧ k ≤ 20 ∧ i = .int .i64 k ∧ Below w.heap.size w wr ∧ Row wr w.heap.size 24 [.int .i64 cols, .slice a ll.length cap] ∧ Hid (∀ j, j < k → (nthL ll j).length ≤ 20)) (fun i _ => ll.length - (intOf i).toNat)
  case atStart => exact ⟨0, Nat.zero_le _, by omega, rfl, ext_alloc w _, r0, Lib.hid (fun j hj => by omega)⟩
  case round =>
    obtain ⟨k, hk, hk2, rfl, hb, hr, hF⟩ := hrel
    obtain ⟨q0, q1⟩ := hr.two
    have endw : (∀ j, j < ll.length → j < 20 → (nthL ll j).length ≤ 20) → Hid (E = (decide (ll.length ≤ 14) && decide (cols ≤ 14))) := fin 0
    clear fin
    by_cases hlt : k < ll.length
    · by_cases h20 : k < 20
      · have q := HQ.out k hlt
        obtain ⟨u, cu, iu⟩ := hl.at hb hlt
        obtain ⟨a', cap', rfl, _, ll1, ll2⟩ := iu.form
        unfold maxLen at ll2
        have hi20 : (k : Int) < 20 := by omega
        by_cases h3 : 20 < (nthL ll k).length
        · have HR : Hid (E = false) := Lib.hid (HE.out.trans (fewM_long HO.out hlt h20 h3))
          clear endw
          go_wp2
          go_ret
          exact .mk hb (bool_eq HR.out.symm)
        · have HR : Hid (∀ j, j < k + 1 → (nthL ll j).length ≤ 20) := Lib.hid (fun j hj => by
            rcases Nat.lt_or_ge j k with h | h
            · exact hF.out j h
            · obtain rfl : j = k := by omega
              omega)
          clear endw hF
          go_wp2
          go_roundw
          case rel => exact ⟨k + 1, by omega, by omega, by go_num, hb, hr, HR⟩
          case measure => simp [intOf]; omega
      · have hi20 : ¬ (k : Int) < 20 := by omega
        have HR := endw (fun j h1 h2 => hF.out j (by omega))
        have hk20 : ¬ ll.length ≤ 14 := by omega
        have d0 : decide (ll.length ≤ 14) = false := decide_eq_false hk20
        have HR2 : Hid (E = false) := Lib.hid (by rw [HR.out, d0]; rfl)
        clear endw HR
        go_wp2
        go_ret
        exact .mk hb (bool_eq HR2.out.symm)
    · have HR := endw (fun j h1 h2 => hF.out j (by omega))
      clear endw
      by_cases h14 : ll.length ≤ 14
      · have HR2 : Hid (E = decide (cols ≤ 14)) := Lib.hid (by rw [HR.out, decide_eq_true h14]; rfl)
        clear HR
        go_wp2
        go_ret
        exact .mk hb (bool_eq HR2.out.symm)
      · have HR2 : Hid (E = false) := Lib.hid (by rw [HR.out, decide_eq_false h14]; rfl)
        clear HR
        go_wp2
        go_ret
        exact .mk hb (bool_eq HR2.out.symm)
end Go.Proofs.Ytijmjliijjkcbaa
/- Several matrices: when all are small. -/
namespace Go.Proofs.Ytijmjliijjkcbaa
set_option linter.unusedVariables false
open Go.RowKit
attribute [local go_sem ↓] Go.wp_at_zero Go.wp_at_succ

def nthM (ms : List Mx) (k : Nat) : Mx := ms.getD k ⟨0, []⟩
/-- Block b holds the matrices. -/
def MatsV (S : Nat → Prop) (w : World) (b : Nat) (ms : List Mx) : Prop :=
  b < w.heap.size ∧ ∀ j, j < ms.length → ∃ rv, w.cell? ⟨b, j * 2, none⟩ = some (.int .i64 (nthM ms j).cols) ∧ w.cell? ⟨b, j * 2 + 1, none⟩ = some rv ∧ Lists S w rv (nthM ms j).rows
theorem MatsV.ext {S : Nat → Prop} {w w' : World} {b : Nat} {ms : List Mx} (h : MatsV S w b ms) (hb : Below w.heap.size w w') : MatsV S w' b ms := by
  refine ⟨Nat.lt_of_lt_of_le h.1 hb.size, fun j hj => ?_⟩
  obtain ⟨rv, c0, c1, hl⟩ := h.2 j hj
  exact ⟨rv, (hb.cell (p := ⟨b, j * 2, none⟩) h.1).trans c0, (hb.cell (p := ⟨b, j * 2 + 1, none⟩) h.1).trans c1, hl.ext hb⟩

theorem info_matrix : (Try.prog.info? 24).map (fun i => (i.size)) = some 2 := by kernel_rfl
theorem info_m : ∃ i, Try.prog.info? 24 = some i ∧ i.size = 2 := by
  have h := info_matrix
  cases h0 : Try.prog.info? 24 with
  | none => rw [h0] at h; cases h
  | some i => rw [h0] at h; exact ⟨i, rfl, by simpa using h⟩
theorem idx_mats {n b : Nat} : ∀ k : Nat, k < n → ∀ W : World, (Instr.indexAt 63 (.slice (some ⟨b, 0, none⟩) n n) (.int .i64 k)).run Try.prog W = .ok (.pointer (some ⟨b, k * 2, none⟩)) W := by
  intro k hk W
  obtain ⟨i, hi, h1⟩ := info_m
  have hE : Try.prog.elem 63 = 24 := by simp [Program.elem, Try.underlying63]
  rw [run_indexAt_slice W 63 _ n n .i64 k (by rw [hE]; exact Try.underlying63), if_pos (by omega), hE]
  simp [sizeOf, typeInfo, hi, h1, Result.andThen, Addr.add]
  exact fun h => h.symm

set_option maxRecDepth 100000 in
set_option maxHeartbeats 2000000 in
theorem few_calls {S : Nat → Prop} {w : World} {b : Nat} {ms : List Mx} (h : MatsV S w b ms) (hn : ms.length ≤ 100) :
    Calls Try.prog 14 #[.slice (some ⟨b, 0, none⟩) ms.length ms.length] w (Post w fun _ r => r = .bool (ms.all fewM)) := by
  obtain ⟨hbl, hm⟩ := h
  have HQ := Lib.hid (@idx_mats ms.length b)
  have HM := Lib.hid hm
  clear hm
  obtain ⟨E, hE⟩ : ∃ E, E = ms.all fewM := ⟨_, rfl⟩
  rw [← hE]
  have HE := Lib.hid hE
  clear hE
  go_enter Try.func14, Try.ntmps14
  go_wp2
  go_loopw [7] (fun i wr => ∃ k : Nat, k ≤ ms.length ∧ i = .int .i64 k ∧ Below w.heap.size w wr ∧ Hid (∀ j, j < k → fewM (nthM ms j) = true)) (fun i _ => ms.length - (intOf i).toNat)
  case atStart => exact ⟨0, Nat.zero_le _, rfl, .refl _ _, Lib.hid (fun j hj => by omega)⟩
  case round =>
    obtain ⟨k, hk, rfl, hb, hF⟩ := hrel
    by_cases hlt : k < ms.length
    · have q := HQ.out k hlt
      obtain ⟨rv, c0, c1, hl⟩ := HM.out k hlt
      have c0' := (hb.cell (p := ⟨b, k * 2, none⟩) hbl).trans c0
      have c1' := (hb.cell (p := ⟨b, k * 2 + 1, none⟩) hbl).trans c1
      clear c0 c1
      obtain ⟨m, hm⟩ : ∃ m, m = nthM ms k := ⟨_, rfl⟩
      rw [← hm] at c0' hl
      have HK := Lib.hid hm
      clear hm
      obtain ⟨a', cap', rfl, _, _, _⟩ := hl.form
      obtain ⟨rv, hrv⟩ : ∃ rv, rv = Value.slice a' m.rows.length cap' := ⟨_, rfl⟩
      rw [← hrv] at hl
      have hlr := hl.ext (ext_alloc' hb (.cells #[.int .i64 m.cols, rv] 24))
      have HC := Lib.hid (refFew_calls (v := .agg #[.int .i64 m.cols, rv]) (m := m) ⟨rv, rfl, hlr⟩)
      subst hrv
      go_wp2_with fail
      refine HC.out.mono ?_
      rintro _ w1 ⟨_, rfl, hb1, rfl⟩
      have hb2 := ext_trans (ext_alloc' hb (.cells #[.int .i64 m.cols, .slice a' m.rows.length cap'] 24)) hb1
      cases hf : fewM m with
      | true =>
        have HR : Hid (∀ j, j < k + 1 → fewM (nthM ms j) = true) := Lib.hid (fun j hj => by
            rcases Nat.lt_or_ge j k with h | h
            · exact hF.out j h
            · obtain rfl : j = k := by omega
              rw [← HK.out]; exact hf)
        clear hf
        go_wp2
        go_roundw
        case rel => exact ⟨k + 1, by omega, by go_num, hb2, HR⟩
        case measure => simp [intOf]; omega
      | false =>
        have HR : Hid (E = false) := Lib.hid (by
          rw [HE.out, List.all_eq_false]
          refine ⟨nthM ms k, ?_, by rw [← HK.out, hf]; simp⟩
          simp [nthM, hlt])
        clear hf
        go_wp2
        go_ret
        exact .mk hb2 (bool_eq HR.out.symm)
    · have HR : Hid (E = true) := Lib.hid (by
        rw [HE.out, List.all_eq_true]
        intro m hm
        obtain ⟨j, hj, rfl⟩ := List.getElem_of_mem hm
        have := hF.out j (by omega)
        simpa [nthM, hj] using this)
      go_wp2
      go_ret
      exact .mk hb (bool_eq HR.out.symm)
end Go.Proofs.Ytijmjliijjkcbaa
