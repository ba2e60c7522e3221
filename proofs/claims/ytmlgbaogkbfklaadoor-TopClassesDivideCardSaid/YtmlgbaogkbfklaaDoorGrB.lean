/- The reference's check of a graph. -/
import Derived.Test.YtmlgbaogkbfklaaDoorGrA
namespace Go.Proofs.YtmlgbaogkbfklaaDoor
set_option linter.unusedVariables false
open Go.RowKit
attribute [local go_sem ↓] Go.wp_at_zero Go.wp_at_succ

/-- These cells are those of a well-formed graph. -/
def IsG (n : Int) (f : Nat → Int) : Prop := ∃ (m : Nat) (h : Nat → Nat), n = m ∧ GOK m h ∧ ∀ p, p < 5 → f p = h p
def goodAt (m : Nat) (f : Nat → Int) (p : Nat) : Prop := if p < m then ∃ a : Nat, f p = a ∧ a < 2 ^ m ∧ a.testBit p = true else f p = 0
theorem isG_of {m : Nat} {f : Nat → Int} (h1 : 1 ≤ m) (h5 : m ≤ 5) (h : ∀ p, p < 5 → goodAt m f p) : IsG m f := by
  have key : ∀ p, p < m → ∃ a : Nat, f p = a ∧ a < 2 ^ m ∧ a.testBit p = true := fun p hp => by
    have := h p (by omega); unfold goodAt at this; rw [if_pos hp] at this; exact this
  refine ⟨m, fun p => (f p).toNat, rfl, ⟨h1, h5, fun p hp => ?_, fun p hp => ?_, fun p hp hp5 => ?_⟩, fun p hp => ?_⟩
  · obtain ⟨a, e, hl, _⟩ := key p hp; simp only [e, Int.toNat_natCast]; exact hl
  · obtain ⟨a, e, _, hl⟩ := key p hp; simp only [e, Int.toNat_natCast]; exact hl
  · have := h p hp5; unfold goodAt at this; rw [if_neg (by omega)] at this; simp [this]
  · by_cases hm : p < m
    · obtain ⟨a, e, _, hl⟩ := key p hm; simp [e]
    · have := h p hp; unfold goodAt at this; rw [if_neg hm] at this; simp [this]
theorem isG_at {m : Nat} {f : Nat → Int} (h : IsG m f) {p : Nat} (hp : p < 5) : goodAt m f p := by
  obtain ⟨m', g, e, H, hf⟩ := h
  obtain rfl : m = m' := by omega
  unfold goodAt
  split
  · rename_i hm; exact ⟨g p, hf p hp, H.lt p hm, H.own p hm⟩
  · rename_i hm; rw [hf p hp, H.zero p (by omega) hp]; rfl
theorem isG_range {n : Int} {f : Nat → Int} (h : IsG n f) : 1 ≤ n ∧ n ≤ 5 := by
  obtain ⟨m, g, e, H, _⟩ := h
  have := H.pos; have := H.le; omega
theorem goodAt_in {m : Nat} {f : Nat → Int} {p : Nat} (hp : p < m) {a : Nat} (h1 : f p = a) (h2 : a < 2 ^ m) (h3 : a.testBit p = true) : goodAt m f p := by unfold goodAt; rw [if_pos hp]; exact ⟨a, h1, h2, h3⟩
theorem goodAt_out {m : Nat} {f : Nat → Int} {p : Nat} (hp : ¬ p < m) (h : f p = 0) : goodAt m f p := by unfold goodAt; rw [if_neg hp]; exact h
theorem goodAt_get {m : Nat} {f : Nat → Int} {p : Nat} (h : goodAt m f p) (hp : p < m) : ∃ a : Nat, f p = a ∧ a < 2 ^ m ∧ a.testBit p = true := by unfold goodAt at h; rw [if_pos hp] at h; exact h
theorem goodAt_zero {m : Nat} {f : Nat → Int} {p : Nat} (h : goodAt m f p) (hp : ¬ p < m) : f p = 0 := by unfold goodAt at h; rw [if_neg hp] at h; exact h

def PChk (n : Int) (f : Nat → Int) (_ : World) (r : Value) : Prop := ∃ e : Int, r = .int .i64 e ∧ (e = 0 ↔ IsG n f)
theorem pchk_no {n : Int} {f : Nat → Int} {w : World} {e : Int} (he : e ≠ 0) (h : ¬ IsG n f) : PChk n f w (.int .i64 e) := ⟨e, rfl, fun h1 => absurd h1 he, fun h1 => absurd h1 h⟩
set_option maxRecDepth 100000 in
set_option maxHeartbeats 4000000 in
theorem grefCheck_calls (w : World) (n : Int) (f : Nat → Int) : Calls Tryd.prog 27 #[gV n f] w (Post w (PChk n f)) := by
  unfold gV
  have ex := ext_alloc w (.cells #[.int .i64 n, .int .i64 (f 0), .int .i64 (f 1), .int .i64 (f 2), .int .i64 (f 3), .int .i64 (f 4)] 24)
  have rg := Row.graph w n f
  by_cases h1 : n < 1
  · have R : Hid (¬ IsG n f) := Lib.hid fun h => by have := isG_range h; omega
    go_enter Tryd.func27, Tryd.ntmps27
    go_wp2
    go_ret
    exact .mk ex (pchk_no (by decide) R.out)
  by_cases h2 : 5 < n
  · have R : Hid (¬ IsG n f) := Lib.hid fun h => by have := isG_range h; omega
    go_enter Tryd.func27, Tryd.ntmps27
    go_wp2
    go_ret
    exact .mk ex (pchk_no (by decide) R.out)
  obtain ⟨m, rfl⟩ : ∃ m : Nat, n = m := ⟨n.toNat, by omega⟩
  have HF := Lib.hid fun W => ((rfull_quiet W (show m ≤ 5 by omega)).mono fun _ _ h => h.take)
  obtain ⟨z, hz⟩ : ∃ z, z = 2 ^ m := ⟨_, rfl⟩
  have HZ := Lib.hid hz
  have hzs : z ≤ 32 ∧ 1 ≤ z := by rw [hz]; exact pow_small (by omega)
  rw [← hz] at HF
  clear hz
  obtain ⟨hz1, hz2⟩ := hzs
  go_enter Tryd.func27, Tryd.ntmps27
  go_wp2
  go_loopw [3, 4] (fun i _ wr => ∃ k : Nat, k ≤ 5 ∧ i = .int .i64 k ∧ Below w.heap.size w wr ∧ Row wr w.heap.size 24 (gC m f) ∧ Hid (∀ p, p < k → goodAt m f p)) (fun i _ _ => 5 - (intOf i).toNat)
  case atStart => exact ⟨0, Nat.zero_le _, rfl, ex, rg, Lib.hid fun p hp => absurd hp (by omega)⟩
  case round =>
    clear ex rg
    obtain ⟨k, hk, rfl, hb, R, HG⟩ := hrel
    by_cases hlt : k < 5
    · have q := idx_five w.heap.size hlt
      have ck := R.hear hlt
      obtain ⟨c0, _⟩ := R.six
      have hW := R.lt
      obtain ⟨x, hx⟩ : ∃ x, x = f k := ⟨_, rfl⟩
      rw [← hx] at ck
      have HX := Lib.hid hx
      clear hx
      have next : goodAt m f k → ∀ p, p < k + 1 → goodAt m f p := fun h p hp => by
        by_cases e : p = k
        · subst e; exact h
        · exact HG.out p (by omega)
      have NX := Lib.hid next
      have NO : Hid (¬ goodAt m f k → ¬ IsG (m : Int) f) := Lib.hid fun h h1 => h (isG_at h1 hlt)
      clear next
      by_cases hkm : k < m
      · by_cases hx0 : x < 0
        · have RR : Hid (¬ IsG (m : Int) f) := Lib.hid (NO.out fun h => by obtain ⟨a, e, _, _⟩ := goodAt_get h hkm; rw [← HX.out] at e; omega)
          go_wp2
          go_ret
          exact .mk hb (pchk_no (by decide) RR.out)
        obtain ⟨a, rfl⟩ : ∃ a : Nat, x = a := ⟨x.toNat, by omega⟩
        by_cases hxz : z ≤ a
        · have RR : Hid (¬ IsG (m : Int) f) := Lib.hid (NO.out fun h => by obtain ⟨b, e, hl, _⟩ := goodAt_get h hkm; rw [← HX.out] at e; rw [← HZ.out] at hl; omega)
          go_wp2_with fail
          refine (HF.out _).mono ?_
          rintro _ w1 ⟨_, rfl, hq1, rfl⟩
          have hb1 := hb.trans (hq1.ext.mono hb.size)
          go_wp2
          go_ret
          exact .mk hb1 (pchk_no (by decide) RR.out)
        · have KB := Lib.hid fun W => ((has_quiet W (show a < 4294967296 by omega) (show k ≤ 5 by omega)).mono fun _ _ h => h.take)
          obtain ⟨b, hbb⟩ : ∃ b, b = a.testBit k := ⟨_, rfl⟩
          rw [← hbb] at KB
          have HB := Lib.hid hbb
          clear hbb
          go_wp2_with fail
          refine (HF.out _).mono ?_
          rintro _ w1 ⟨_, rfl, hq1, rfl⟩
          have hb1 := hb.trans (hq1.ext.mono hb.size)
          have R1 := R.ext hq1.ext
          clear q ck c0
          go_wp2_with fail
          refine (KB.out _).mono ?_
          rintro _ w2 ⟨_, rfl, hq2, rfl⟩
          have hb2 := hb1.trans (hq2.ext.mono hb1.size)
          have R2 := R1.ext hq2.ext
          cases b with
          | false =>
            have RR : Hid (¬ IsG (m : Int) f) := Lib.hid (NO.out fun h => by
              obtain ⟨b, e, _, hl⟩ := goodAt_get h hkm
              rw [← HX.out] at e
              obtain rfl : a = b := by omega
              rw [← HB.out] at hl; cases hl)
            go_wp2
            go_ret
            exact .mk hb2 (pchk_no (by decide) RR.out)
          | true =>
            have HG2 : Hid (∀ p, p < k + 1 → goodAt m f p) := Lib.hid (NX.out (goodAt_in hkm HX.out.symm (by rw [← HZ.out]; omega) HB.out.symm))
            go_wp2
            go_roundw
            case rel => exact ⟨k + 1, by omega, by go_num, hb2, R2, HG2⟩
            case measure => simp [intOf]; omega
      · by_cases hx0 : x = 0
        · subst hx0
          have HG2 : Hid (∀ p, p < k + 1 → goodAt m f p) := Lib.hid (NX.out (goodAt_out hkm HX.out.symm))
          go_wp2
          go_roundw
          case rel => exact ⟨k + 1, by omega, by go_num, hb, R, HG2⟩
          case measure => simp [intOf]; omega
        · have hne : (x != 0) = true := by simp [hx0]
          have RR : Hid (¬ IsG (m : Int) f) := Lib.hid (NO.out fun h => hx0 (by rw [HX.out]; exact goodAt_zero h hkm))
          clear hx0
          go_wp2
          go_ret
          exact .mk hb (pchk_no (by decide) RR.out)
    · obtain rfl : k = 5 := by omega
      have RR : Hid (IsG (m : Int) f) := Lib.hid (isG_of (by omega) (by omega) HG.out)
      go_wp2
      go_ret
      exact .mk hb ⟨0, rfl, fun _ => RR.out, fun _ => rfl⟩
end Go.Proofs.YtmlgbaogkbfklaaDoor
