/- Rows with bounds: plain data. Rows with bounds; the reference's sums of rows by number. -/
import Derived.Test.YtijmjliijjkcbaaMxA
import Derived.Test.YtijmjliijjkcbaaMxOut
/- Rows with bounds: plain data. -/
namespace Go.Proofs.Ytijmjliijjkcbaa
set_option linter.unusedVariables false

/-- Rows in order, with columns below c. -/
structure ROk (c : Int) (R : List (List Int)) : Prop where
  c1 : c ≤ 100000
  ord : Rows R
  rng : ∀ r ∈ R, ∀ x ∈ r, 0 ≤ x ∧ x < c
theorem MOk.rok {m : Mx} (h : MOk m) : ROk m.cols m.rows := ⟨by have := h.c1; omega, h.ord, h.rng⟩
theorem small_len {l : List Int} {c : Int} (hc : c ≤ 100000) (ho : Ord l) (hr : ∀ x ∈ l, 0 ≤ x ∧ x < c) : l.length ≤ 100000 := by
  rcases Ord.length_le ho hr with h | h
  · omega
  · rw [h]; simp
theorem ROk.nth_rng {c : Int} {R : List (List Int)} (h : ROk c R) (k : Nat) : ∀ x ∈ nthL R k, 0 ≤ x ∧ x < c := by
  rcases Nat.lt_or_ge k R.length with h1 | h1
  · exact h.rng _ (nthL_mem h1)
  · rw [show nthL R k = [] from by simp [nthL, List.getElem?_eq_none h1]]; intro x hx; simp at hx
theorem ROk.nth_ord {c : Int} {R : List (List Int)} (h : ROk c R) (k : Nat) : Ord (nthL R k) := nthL_ord h.ord k
theorem ROk.nth_len {c : Int} {R : List (List Int)} (h : ROk c R) (k : Nat) : (nthL R k).length ≤ 100000 := small_len h.c1 (h.nth_ord k) (h.nth_rng k)
theorem sumRows_rng {c : Int} {R : List (List Int)} (h : ROk c R) (y : List Int) : ∀ x ∈ sumRows R y, 0 ≤ x ∧ x < c :=
  snoc_ind (P := fun y => ∀ x ∈ sumRows R y, 0 ≤ x ∧ x < c) (fun x hx => by simp [sumRows_nil] at hx) (fun y k ih x hx => by
    rw [sumRows_snoc] at hx
    exact (xorL_sub x hx).elim (ih x) (h.nth_rng _ x)) y
theorem sumRows_len {c : Int} {R : List (List Int)} (h : ROk c R) (y : List Int) : (sumRows R y).length ≤ 100000 := small_len h.c1 (sumRows_ord h.ord y) (sumRows_rng h y)
end Go.Proofs.Ytijmjliijjkcbaa
/- Rows with bounds; the reference's sums of rows by number. -/
namespace Go.Proofs.Ytijmjliijjkcbaa
set_option linter.unusedVariables false
open Go.RowKit
attribute [local go_sem ↓] Go.wp_at_zero Go.wp_at_succ

/-- The place of a row by its number. -/
theorem idx_num {P : Program} {S : Nat → Prop} {w : World} {T E : TypeId} {i : TypeInfo} (hT : P.underlying T = some (.slice E)) (hi : P.info? E = some i) (h1 : i.size = 1) {a : Option Addr} {n cap : Nat} (h : Ad S w a n cap) (x : Int) (h0 : 0 ≤ x) (hx : x < n) :
    ∀ W : World, (Instr.indexAt T (.slice a n cap) (.int .i64 x)).run P W = .ok (.pointer (some (adr a x.toNat))) W := by
  intro W
  have := idx_one hT hi h1 h x.toNat (by omega) W
  rw [show ((x.toNat : Nat) : Int) = x by omega] at this
  exact this

set_option maxRecDepth 100000 in
set_option maxHeartbeats 2000000 in
theorem refSum_calls {S S' : Nat → Prop} {w : World} {vr vy : Value} {R : List (List Int)} {y : List Int} {c : Int} (hR : Lists S w vr R) (hy : Ints S' w vy y) (ok : ROk c R) (hr : ∀ x ∈ y, 0 ≤ x ∧ x < R.length) :
    Calls Try.prog 35 #[vr, vy] w (Post w fun w' r => Ints (fun b => w.heap.size ≤ b) w' r (sumRows R y)) := by
  obtain ⟨aa, acap, rfl, aad, al1, alm⟩ := hR.form
  obtain ⟨ya, ycap, rfl, yad, yl1, ylm, hyc, hyw⟩ := hy
  unfold maxLen at alm ylm
  obtain ⟨i0, hi, hz0, hz1, hz2⟩ := info_parts info_ints
  obtain ⟨i1, hj, hy0, hy1, hy2⟩ := info_parts info_int
  have HQA := Lib.hid (fun x => idx_num Try.underlying22 hi hz1 aad x)
  have HQY := Lib.hid (idx_one Try.underlying38 hj hy1 yad)
  have HYC := Lib.hid hyc
  clear hi hz0 hz1 hz2 hj hy0 hy1 hy2 hyc
  go_enter Try.func35, Try.ntmps35
  go_wp2
  go_loopw [5, 6] (fun vo i wr => ∃ k : Nat, k ≤ y.length ∧ i = .int .i64 k ∧ Below w.heap.size w wr ∧ Ints (fun b => w.heap.size ≤ b) wr vo (sumRows R (y.take k))) (fun _ i _ => y.length - (intOf i).toNat)
  case atStart => exact ⟨0, Nat.zero_le _, rfl, .refl _ _, .nil _ _⟩
  case round =>
    obtain ⟨k, hk, rfl, hb, hv⟩ := hrel
    by_cases hlt : k < y.length
    · have qy := HQY.out k hlt
      have cy := cells_at yad hb HYC.out k hlt
      have hx := hr _ (nth_mem hlt)
      have HT := Lib.hid (show sumRows R (y.take (k + 1)) = xorL (sumRows R (y.take k)) (nthL R (nth y k).toNat) from by rw [take_nth hlt, sumRows_snoc])
      obtain ⟨x, hxx⟩ : ∃ x, x = nth y k := ⟨_, rfl⟩
      rw [← hxx] at cy hx HT
      clear hxx
      have qa := HQA.out x hx.1 hx.2
      obtain ⟨u, cu, iu⟩ := hR.at hb (k := x.toNat) (by omega)
      have hn1 := sumRows_len ok (y.take k)
      have hn2 := ok.nth_len x.toNat
      have HP := Lib.hid (plus_calls hv iu (by omega))
      obtain ⟨hx0, hx1⟩ := hx
      clear hn1 hn2
      go_wp2_with fail
      refine HP.out.mono ?_
      rintro _ w1 ⟨v1, rfl, hb1, iv⟩
      rw [← HT.out] at iv
      have hbs := hb.size
      go_wp2
      go_roundw
      case rel => exact ⟨k + 1, by omega, by go_num, ext_trans hb hb1, iv.mono fun b hb => by omega⟩
      case measure => simp [intOf]; omega
    · rw [List.take_of_length_le (by omega)] at hv
      go_wp2
      go_ret
      exact .mk hb hv
end Go.Proofs.Ytijmjliijjkcbaa
