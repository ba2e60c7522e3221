/- The reference's errors of matrices; when two matrices are the same; when one is small. -/
import Derived.Test.YtijmjliijjkcbaaMxC2
namespace Go.Proofs.Ytijmjliijjkcbaa
set_option linter.unusedVariables false
open Go.RowKit
attribute [local go_sem ↓] Go.wp_at_zero Go.wp_at_succ

def bothM (a b : Mx) : Int := if checkM a ≠ 0 then checkM a else checkM b
theorem bothM_err {a b : Mx} (h : checkM a ≠ 0) : bothM a b = checkM a := by unfold bothM; rw [if_pos h]
theorem bothM_ok {a b : Mx} (h : checkM a = 0) : bothM a b = checkM b := by unfold bothM; rw [if_neg (by simp [h])]
theorem bothM_zero {a b : Mx} : bothM a b = 0 ↔ checkM a = 0 ∧ checkM b = 0 := by
  unfold bothM
  split
  · rename_i h; constructor
    · intro h2; exact absurd h2 h
    · intro h2; exact h2.1
  · rename_i h; constructor
    · intro h2; exact ⟨Classical.not_not.1 h, h2⟩
    · intro h2; exact h2.2

set_option maxRecDepth 100000 in
set_option maxHeartbeats 1000000 in
theorem both_calls {S S' : Nat → Prop} {w : World} {va vb : Value} {a b : Mx} (ha : MatV S w va a) (hb : MatV S' w vb b) :
    Calls Try.prog 62 #[va, vb] w (Post w fun _ r => r = .int .i64 (bothM a b)) := by
  have ca := ha.ext (ext_alloc' (ext_alloc w (.cells #[] 3)) (.cells #[] 3))
  obtain ⟨ra, rfl, la⟩ := ha
  obtain ⟨rb, rfl, lb⟩ := hb
  have hE : ∀ (x y : Obj), Below w.heap.size w ((w.alloc x).alloc y) := fun x y => ext_alloc' (ext_alloc w x) y
  have r0 := row_new (w.alloc (.cells #[.int .i64 a.cols, ra] 24)) [.int .i64 b.cols, rb] 24
  have ex := hE (.cells #[.int .i64 a.cols, ra] 24) (.cells #[.int .i64 b.cols, rb] 24)
  have KA := Lib.hid (check_calls (v := .agg #[.int .i64 a.cols, ra]) (m := a) ⟨ra, rfl, la.ext ex⟩)
  clear hE
  go_enter Try.func62, Try.ntmps62
  go_wp2_with fail
  refine KA.out.mono ?_
  rintro _ w1 ⟨_, rfl, hb1, rfl⟩
  have hx1 := ext_trans ex hb1
  have r1 := r0.ext hb1
  rw [World.size_alloc] at r1
  obtain ⟨q0, q1⟩ := r1.two
  by_cases h1 : checkM a = 0
  · have e1 : (checkM a != 0) = false := by simp [h1]
    have R := Lib.hid (bothM_ok (b := b) h1)
    have KB := Lib.hid (check_calls (v := .agg #[.int .i64 b.cols, rb]) (m := b) ⟨rb, rfl, lb.ext hx1⟩)
    clear h1
    go_wp2_with fail
    refine KB.out.mono ?_
    rintro _ w2 ⟨_, rfl, hb2, rfl⟩
    go_wp2
    go_ret
    exact .mk (ext_trans hx1 hb2) (int_eq R.out.symm)
  · have e1 : (checkM a != 0) = true := by simp [h1]
    have R := Lib.hid (bothM_err (b := b) h1)
    clear h1
    go_wp2
    go_ret
    exact .mk hx1 (int_eq R.out.symm)

set_option maxRecDepth 100000 in
set_option maxHeartbeats 2000000 in
theorem refVector_quiet {S : Nat → Prop} {w : World} {v : Value} {l : List Int} (h : Ints S w v l) (n : Int) :
    Calls Try.prog 30 #[.int .i64 n, v] w (QuietP w (.int .i64 (vecE n l))) := by
  obtain ⟨a, cap, rfl, ad, l1, lm, hc, hwf⟩ := h
  unfold maxLen at lm
  obtain ⟨i, hi, hz1, hz2, hz3⟩ := info_parts info_int
  have HQ := Lib.hid (idx_one Try.underlying38 hi hz2 ad)
  have HP := Lib.hid (idx_prev Try.underlying38 hi hz2 ad)
  have HC := Lib.hid hc
  obtain ⟨E, hE⟩ : ∃ E, E = vecE n l := ⟨_, rfl⟩
  rw [← hE]
  have HE := Lib.hid hE
  clear hc hE hwf
  go_enter Try.func30, Try.ntmps30
  go_wp2
  go_loopw [5] (fun i wr => ∃ k : Nat, k ≤ l.length ∧ i = .int .i64 k ∧ (∃ m, wr = w.drewN m) ∧ Hid (E = vfrom n l k)) (fun i _ => l.length - (intOf i).toNat)
  case atStart => exact ⟨0, Nat.zero_le _, rfl, ⟨0, rfl⟩, HE⟩
  case round =>
    obtain ⟨k, hk, rfl, ⟨m, rfl⟩, hF⟩ := hrel
    by_cases hlt : k < l.length
    · have q := HQ.out k hlt
      have c := HC.out k hlt
      have hst : ∀ x, vstep n l k = x → x ≠ 0 → Hid (E = x) := fun x hx h0 => Lib.hid (hF.out.trans (vfrom_err hlt hx h0))
      have hnx : vstep n l k = 0 → Hid (E = vfrom n l (k + 1)) := fun hx => Lib.hid (hF.out.trans (vfrom_next hlt hx))
      obtain ⟨x, hx⟩ : ∃ x, x = nth l k := ⟨_, rfl⟩
      rw [← hx] at c
      by_cases h1 : x < 0
      · have HR := hst 2 (by unfold vstep; rw [if_pos (by omega)]) (by omega)
        clear hst hnx hx
        go_wp2
        go_ret
        exact .of (int_eq HR.out.symm) _
      by_cases h2 : n ≤ x
      · have HR := hst 2 (by unfold vstep; rw [if_pos (by omega)]) (by omega)
        clear hst hnx hx
        go_wp2
        go_ret
        exact .of (int_eq HR.out.symm) _
      by_cases h3 : k = 0
      · have HR := hnx (by unfold vstep; rw [if_neg (by omega), if_neg (by omega)])
        subst h3
        rw [show (((0 : Nat)) : Int) = 0 from rfl] at q
        clear hst hnx hx hF
        go_wp2
        go_quiet (fail)
        go_wp2
        go_roundw
        case rel => exact ⟨1, by omega, by go_num, ⟨_, rfl⟩, HR⟩
        case measure => simp [intOf]; omega
      have hkp : 0 < k := by omega
      have qp := HP.out k hkp hlt
      have cp := HC.out (k - 1) (by omega)
      obtain ⟨y, hy⟩ : ∃ y, y = nth l (k - 1) := ⟨_, rfl⟩
      rw [← hy] at cp
      have hk1 : (1 : Int) ≤ (k : Int) := by omega
      have hk0 : (0 : Int) < (k : Int) := by omega
      have hwr : IntKind.i64.wrap ((k : Int) - 1) = (k : Int) - 1 := IntWalk.i64_in _ (by omega)
      by_cases h4 : x ≤ y
      · have HR := hst 14 (by unfold vstep; rw [if_neg (by omega), if_pos (by omega)]) (by omega)
        clear hst hnx hx hy h3
        go_wp2
        go_quiet (fail)
        go_wp2
        go_ret
        rw [World.drewN_drewN]; exact .of (int_eq HR.out.symm) _
      · have HR := hnx (by unfold vstep; rw [if_neg (by omega), if_neg (by omega)])
        have h4' : decide (x ≤ y) = false := by simpa using h4
        clear hst hnx hx hy hF h3
        go_wp2
        go_quiet (fail)
        go_wp2
        go_roundw
        case rel => exact ⟨k + 1, by omega, by go_num, ⟨_, rfl⟩, HR⟩
        case measure => simp [intOf]; omega
    · have HR := Lib.hid (hF.out.trans (vfrom_end (by omega)))
      clear hF
      go_wp2
      go_ret
      exact .of (int_eq HR.out.symm) _
theorem refVector_calls {S : Nat → Prop} {w : World} {v : Value} {l : List Int} (h : Ints S w v l) (n : Int) :
    Calls Try.prog 30 #[.int .i64 n, v] w (Post w fun _ r => r = .int .i64 (vecE n l)) := (refVector_quiet h n).mono fun _ _ h => h.post

set_option maxRecDepth 100000 in
set_option maxHeartbeats 2000000 in
theorem refCheck_calls {S : Nat → Prop} {w : World} {v : Value} {m : Mx} (h : MatV S w v m) :
    Calls Try.prog 33 #[v] w (Post w fun _ r => r = .int .i64 (checkM m)) := by
  obtain ⟨rv, rfl, hl⟩ := h
  obtain ⟨cols, ll⟩ := m
  obtain ⟨a, cap, rfl, ad, l1, lm⟩ := hl.form
  dsimp only at hl l1 ad ⊢
  unfold maxLen at lm
  obtain ⟨i, hi, hz1, hz2, hz3⟩ := info_parts info_ints
  have HQ := Lib.hid (idx_one Try.underlying22 hi hz2 ad)
  by_cases c0 : cols < 0
  · have R := Lib.hid (checkM_cols (m := ⟨cols, ll⟩) (.inl c0))
    clear hi hz1 hz2 hz3
    go_enter Try.func33, Try.ntmps33
    go_wp2
    go_ret
    exact .mk (ext_alloc w _) (int_eq R.out.symm)
  by_cases c1 : 4096 < cols
  · have R := Lib.hid (checkM_cols (m := ⟨cols, ll⟩) (.inr c1))
    clear hi hz1 hz2 hz3
    go_enter Try.func33, Try.ntmps33
    go_wp2
    go_ret
    exact .mk (ext_alloc w _) (int_eq R.out.symm)
  by_cases c2 : 4096 < ll.length
  · have R := Lib.hid (checkM_many (m := ⟨cols, ll⟩) (by simp; omega) (by simp; omega) c2)
    clear hi hz1 hz2 hz3
    go_enter Try.func33, Try.ntmps33
    go_wp2
    go_ret
    exact .mk (ext_alloc w _) (int_eq R.out.symm)
  have R := Lib.hid (checkM_rows (m := ⟨cols, ll⟩) (by simp; omega) (by simp; omega) (by simp; omega))
  obtain ⟨E, hE⟩ : ∃ E, E = checkM ⟨cols, ll⟩ := ⟨_, rfl⟩
  rw [← hE]
  have HE : Hid (E = rfrom cols ll 0) := Lib.hid (hE.trans R.out)
  clear hi hz1 hz2 hz3 hE R
  have r0 := row_new w [.int .i64 cols, .slice a ll.length cap] 24
  go_enter Try.func33, Try.ntmps33
  go_wp2
  go_loopw [3] (fun i wr => ∃ k : Nat, k ≤ ll.length ∧ i = .int .i64 k ∧ Below w.heap.size w wr ∧ Row wr w.heap.size 24 [.int .i64 cols, .slice a ll.length cap] ∧ Hid (E = rfrom cols ll k)) (fun i _ => ll.length - (intOf i).toNat)
  case atStart => exact ⟨0, Nat.zero_le _, rfl, ext_alloc w _, r0, HE⟩
  case round =>
    obtain ⟨k, hk, rfl, hb, hr, hF⟩ := hrel
    obtain ⟨q0, q1⟩ := hr.two
    by_cases hlt : k < ll.length
    · have q := HQ.out k hlt
      obtain ⟨u, cu, iu⟩ := hl.at hb hlt
      have HV := Lib.hid (fun n => refVector_quiet (iu.drewN n) cols)
      by_cases h1 : vecE cols (nthL ll k) = 0
      · have e1 : (vecE cols (nthL ll k) != 0) = false := by simp [h1]
        have HR := Lib.hid (hF.out.trans (rfrom_next hlt h1))
        clear h1
        go_wp2_with fail
        go_quiet ((go_at_call 30; exact quiet_calls (HV.out _)))
        go_wp2
        go_roundw
        case rel => exact ⟨k + 1, by omega, by go_num, ext_drewN hb _, hr.ext (drewN_below _ _ _), HR⟩
        case measure => simp [intOf]; omega
      · have e1 : (vecE cols (nthL ll k) != 0) = true := by simp [h1]
        have HR := Lib.hid (hF.out.trans (rfrom_err hlt rfl h1))
        clear h1
        go_wp2_with fail
        go_quiet ((go_at_call 30; exact quiet_calls (HV.out _)))
        go_wp2
        go_ret
        exact .mk (ext_drewN hb _) (int_eq HR.out.symm)
    · have HR := Lib.hid (hF.out.trans (rfrom_end (by omega)))
      go_wp2
      go_ret
      exact .mk hb (int_eq HR.out.symm)
end Go.Proofs.Ytijmjliijjkcbaa
