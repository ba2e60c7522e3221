/- The errors of vectors, in the program and in the reference. -/
import Derived.Test.YtijmjliijjkcbaaMxCheck
import Derived.Test.YtijmjliijjkcbaaSlices
import Derived.Deep.DrawnRows
namespace Go.Proofs.Ytijmjliijjkcbaa
set_option linter.unusedVariables false
open Go.RowKit
attribute [local go_sem ↓] Go.wp_at_zero Go.wp_at_succ

/-- The place of the element before. -/
theorem idx_prev {P : Program} {S : Nat → Prop} {w : World} {T E : TypeId} {i : TypeInfo} (hT : P.underlying T = some (.slice E)) (hi : P.info? E = some i) (h1 : i.size = 1) {a : Option Addr} {n cap : Nat} (h : Ad S w a n cap) (k : Nat) (h0 : 0 < k) (hk : k < n) :
    ∀ W : World, (Instr.indexAt T (.slice a n cap) (.int .i64 ((k : Int) - 1))).run P W = .ok (.pointer (some (adr a (k - 1)))) W := by
  intro W
  have := idx_one hT hi h1 h (k - 1) (by omega) W
  rw [show (((k - 1 : Nat)) : Int) = (k : Int) - 1 by omega] at this
  exact this

set_option maxRecDepth 100000 in
set_option maxHeartbeats 2000000 in
theorem vector_calls {S : Nat → Prop} {w : World} {v : Value} {l : List Int} (h : Ints S w v l) (n : Int) :
    Calls Try.prog 54 #[v, .int .i64 n] w (Post w fun _ r => r = .int .i64 (vecE n l)) := by
  obtain ⟨a, cap, rfl, ad, l1, lm, hc, hwf⟩ := h
  unfold maxLen at lm
  obtain ⟨i, hi, hz1, hz2, hz3⟩ := info_parts info_int
  have HQ := Lib.hid (idx_one Try.underlying38 hi hz2 ad)
  have HP := Lib.hid (idx_prev Try.underlying38 hi hz2 ad)
  have HC := Lib.hid hc
  obtain ⟨E, hE⟩ : ∃ E, E = vecE n l := ⟨_, rfl⟩
  rw [← hE]
  have HE := Lib.hid hE
  clear hc hE hwf
  go_enter Try.func54, Try.ntmps54
  go_wp2
  go_loopw [9] (fun i wr => ∃ k : Nat, k ≤ l.length ∧ i = .int .i64 k ∧ Below w.heap.size w wr ∧ Hid (E = vfrom n l k)) (fun i _ => l.length - (intOf i).toNat)
  case atStart => exact ⟨0, Nat.zero_le _, rfl, .refl _ _, HE⟩
  case round =>
    obtain ⟨k, hk, rfl, hb, hF⟩ := hrel
    by_cases hlt : k < l.length
    · have q := HQ.out k hlt
      have c := cells_at ad hb HC.out k hlt
      have hst : ∀ x, vstep n l k = x → x ≠ 0 → Hid (E = x) := fun x hx h0 => Lib.hid (hF.out.trans (vfrom_err hlt hx h0))
      have hnx : vstep n l k = 0 → Hid (E = vfrom n l (k + 1)) := fun hx => Lib.hid (hF.out.trans (vfrom_next hlt hx))
      obtain ⟨x, hx⟩ : ∃ x, x = nth l k := ⟨_, rfl⟩
      rw [← hx] at c
      by_cases h1 : x < 0
      · have HR := hst 2 (by unfold vstep; rw [if_pos (by omega)]) (by omega)
        clear hst hnx hx
        go_wp2
        go_ret
        exact .mk hb (int_eq HR.out.symm)
      by_cases h2 : n ≤ x
      · have HR := hst 2 (by unfold vstep; rw [if_pos (by omega)]) (by omega)
        clear hst hnx hx
        go_wp2
        go_ret
        exact .mk hb (int_eq HR.out.symm)
      by_cases h3 : k = 0
      · have HR := hnx (by unfold vstep; rw [if_neg (by omega), if_neg (by omega)])
        subst h3
        rw [show (((0 : Nat)) : Int) = 0 from rfl] at q
        clear hst hnx hx hF
        go_wp2
        go_roundw
        case rel => exact ⟨1, by omega, by go_num, hb, HR⟩
        case measure => simp [intOf]; omega
      have hkp : 0 < k := by omega
      have qp := HP.out k hkp hlt
      have cp := cells_at ad hb HC.out (k - 1) (by omega)
      obtain ⟨y, hy⟩ : ∃ y, y = nth l (k - 1) := ⟨_, rfl⟩
      rw [← hy] at cp
      have hk1 : (1 : Int) ≤ (k : Int) := by omega
      have hk0 : (0 : Int) < (k : Int) := by omega
      by_cases h4 : x ≤ y
      · have HR := hst 14 (by unfold vstep; rw [if_neg (by omega), if_pos (by omega)]) (by omega)
        clear hst hnx hx hy h3
        go_wp2
        go_ret
        exact .mk hb (int_eq HR.out.symm)
      · have HR := hnx (by unfold vstep; rw [if_neg (by omega), if_neg (by omega)])
        clear hst hnx hx hy hF h3
        go_wp2
        go_roundw
        case rel => exact ⟨k + 1, by omega, by go_num, hb, HR⟩
        case measure => simp [intOf]; omega
    · have HR := Lib.hid (hF.out.trans (vfrom_end (by omega)))
      clear hF
      go_wp2
      go_ret
      exact .mk hb (int_eq HR.out.symm)
end Go.Proofs.Ytijmjliijjkcbaa
