/- The program's variable, clause. -/
import Derived.Test.YtifcgcdbebgahaaClL
namespace Go.Proofs.Ytifcgcdbebgahaa
set_option linter.unusedVariables false
open Go.RowKit
attribute [local go_sem ↓] Go.wp_at_zero Go.wp_at_succ

def varP (x : Int) : Int := max (varS x) 0
theorem varP_good {n x : Int} (hn : n ≤ 100000) (h : goodP n x = true) : varP x = varS x := by
  have := good_var hn h
  unfold varP
  omega
theorem varP_iff {n x : Int} (hn : 0 ≤ n ∧ n ≤ 100000) (hx : WF x) : goodP n x = true ↔ ¬ (varP x < 1 ∨ n < varP x) := by
  rw [goodP_iff]
  unfold WF at hx
  unfold varP varS wrap64
  split <;> omega
set_option maxRecDepth 100000 in
theorem variable_quiet (w : World) (x : Int) : Calls Try.prog 43 #[.int .i64 x] w (QuietP w (.int .i64 (varP x))) := by
  by_cases h : x < 0
  · have h2 := varS_neg h
    have h3 := Lib.hid (show varP x = max (wrap64 (-x)) 0 by unfold varP; rw [h2])
    clear h2
    go_enter Try.func43, Try.ntmps43
    go_wp2
    all_goals
      go_ret
      exact .fin (int_eq (by rw [h3.out]; omega)) (.refl _)
  · have h2 := varS_pos h
    have h3 := Lib.hid (show varP x = max x 0 by unfold varP; rw [h2])
    clear h2
    go_enter Try.func43, Try.ntmps43
    go_wp2
    all_goals
      go_ret
      exact .fin (int_eq (by rw [h3.out]; omega)) (.refl _)

/-! the error of a clause -/
theorem cstep_bad {n : Int} {l : List Int} {k : Nat} {x : Int} (hx : x = nth l k) (h : goodP n x = false) : cstep n l k = 2 := by unfold cstep; rw [← hx, if_pos h]
theorem cstep_first {n : Int} {l : List Int} {x : Int} (hx : x = nth l 0) (h : goodP n x = true) : cstep n l 0 = 0 := by unfold cstep; rw [← hx, if_neg (by rw [h]; simp), if_neg (by omega)]
theorem cstep_order {n : Int} {l : List Int} {k : Nat} {x y : Int} (hn : n ≤ 100000) (hk : 0 < k) (hx : x = nth l k) (hy : y = nth l (k - 1)) (h : goodP n x = true) (h2 : goodP n y = true) (h3 : varP x ≤ varP y) : cstep n l k = 14 := by
  rw [varP_good hn h, varP_good hn h2] at h3
  unfold cstep; rw [← hx, ← hy, if_neg (by rw [h]; simp), if_pos ⟨hk, h3⟩]
theorem cstep_more {n : Int} {l : List Int} {k : Nat} {x y : Int} (hn : n ≤ 100000) (hk : 0 < k) (hx : x = nth l k) (hy : y = nth l (k - 1)) (h : goodP n x = true) (h2 : goodP n y = true) (h3 : ¬ varP x ≤ varP y) : cstep n l k = 0 := by
  rw [varP_good hn h, varP_good hn h2] at h3
  unfold cstep; rw [← hx, ← hy, if_neg (by rw [h]; simp), if_neg (fun e => h3 e.2)]

set_option maxRecDepth 100000 in
set_option maxHeartbeats 2000000 in
theorem clause_quiet {S : Nat → Prop} {w : World} {v : Value} {l : List Int} (h : Ints S w v l) {n : Int} (hn : 0 ≤ n ∧ n ≤ 100000) :
    Calls Try.prog 61 #[.int .i64 n, v] w (QuietP w (.int .i64 (clauseE n l))) := by
  obtain ⟨a, cap, rfl, ad, l1, lm, hc, hwf⟩ := h
  unfold maxLen at lm
  obtain ⟨i, hi, hz1, hz2, hz3⟩ := info_parts info_int
  have HQ := Lib.hid (idx_one Try.underlying25 hi hz2 ad)
  have HP := Lib.hid (idx_prev Try.underlying25 hi hz2 ad)
  have HC := Lib.hid hc
  obtain ⟨E, hE⟩ : ∃ E, E = clauseE n l := ⟨_, rfl⟩
  rw [← hE]
  have HE := Lib.hid hE
  have HN := Lib.hid hn
  have HW := Lib.hid hwf
  clear hc hE hwf hn
  go_enter Try.func61, Try.ntmps61
  go_wp2
  go_loopw [10] (fun i wr => ∃ k : Nat, k ≤ l.length ∧ i = .int .i64 k ∧ QW w wr ∧ Hid (E = cfrom n l k) ∧ Hid (0 < k → goodP n (nth l (k - 1)) = true)) (fun i _ => l.length - (intOf i).toNat)
  case atStart => exact ⟨0, Nat.zero_le _, rfl, .refl _, HE, Lib.hid fun h => absurd h (by omega)⟩
  case round =>
    obtain ⟨k, hk, rfl, hQ, hF, hG⟩ := hrel
    by_cases hlt : k < l.length
    · have q := HQ.out k hlt
      have c := cells_at ad hQ.ext HC.out k hlt
      have HST := Lib.hid (fun x (hx : cstep n l k = x) (h0 : x ≠ 0) => hF.out.trans (cfrom_err hlt hx h0))
      have HNX := Lib.hid (fun (hx : cstep n l k = 0) => hF.out.trans (cfrom_next hlt hx))
      have hwx : WF (nth l k) := HW.out _ (by rw [nth_eq hlt]; exact List.getElem_mem hlt)
      obtain ⟨x, hx⟩ : ∃ x, x = nth l k := ⟨_, rfl⟩
      rw [← hx] at c hwx
      have HX := Lib.hid hx
      have HIF := Lib.hid (varP_iff HN.out hwx)
      clear hx hwx
      go_wp2_with fail
      refine ((variable_quiet _ _).mono fun _ _ h => h.take).mono ?_
      rintro _ w2 ⟨_, rfl, hq2, rfl⟩
      have hQ2 := hQ.trans hq2
      clear c hQ hq2
      obtain ⟨v, hv⟩ : ∃ v, v = varP x := ⟨_, rfl⟩
      rw [← hv] at HIF ⊢
      have HV := Lib.hid hv
      clear hv
      by_cases h1 : v < 1
      · have HR := Lib.hid (HST.out 2 (cstep_bad HX.out (by cases e : goodP n x with
          | false => rfl
          | true => exact absurd (.inl h1) (HIF.out.1 e))) (by omega))
        go_wp2
        go_ret
        exact .fin (int_eq HR.out.symm) hQ2
      by_cases h2 : n < v
      · have HR := Lib.hid (HST.out 2 (cstep_bad HX.out (by cases e : goodP n x with
          | false => rfl
          | true => exact absurd (.inr h2) (HIF.out.1 e))) (by omega))
        go_wp2
        go_ret
        exact .fin (int_eq HR.out.symm) hQ2
      have HGX : Hid (goodP n x = true) := Lib.hid (HIF.out.2 (by omega))
      by_cases h3 : k = 0
      · subst h3
        have HR := Lib.hid (HNX.out (cstep_first HX.out HGX.out))
        have HGN : Hid (0 < 0 + 1 → goodP n (nth l (0 + 1 - 1)) = true) := Lib.hid (fun _ => HX.out ▸ HGX.out)
        rw [show (((0 : Nat)) : Int) = 0 from rfl] at q
        go_wp2
        go_roundw
        case rel => exact ⟨1, by omega, by go_num, hQ2, HR, HGN⟩
        case measure => simp [intOf]; omega
      have hkp : 0 < k := by omega
      have qp := HP.out k hkp hlt
      have cp := cells_at ad hQ2.ext HC.out (k - 1) (by omega)
      have HGY := Lib.hid (hG.out hkp)
      obtain ⟨y, hy⟩ : ∃ y, y = nth l (k - 1) := ⟨_, rfl⟩
      rw [← hy] at cp HGY
      have HY := Lib.hid hy
      have hk1 : (1 : Int) ≤ (k : Int) := by omega
      have hk0 : (0 : Int) < (k : Int) := by omega
      have hwr : IntKind.i64.wrap ((k : Int) - 1) = (k : Int) - 1 := IntWalk.i64_in _ (by omega)
      clear hy h3
      go_wp2_with fail
      refine ((variable_quiet _ _).mono fun _ _ h => h.take).mono ?_
      rintro _ w3 ⟨_, rfl, hq3, rfl⟩
      have hQ3 := hQ2.trans hq3
      clear cp hQ2 hq3 qp
      obtain ⟨u, hu⟩ : ∃ u, u = varP y := ⟨_, rfl⟩
      rw [← hu]
      have HU := Lib.hid hu
      clear hu
      by_cases h4 : v ≤ u
      · have HR := Lib.hid (HST.out 14 (cstep_order HN.out.2 hkp HX.out HY.out HGX.out HGY.out (by rw [← HV.out, ← HU.out]; exact h4)) (by omega))
        go_wp2
        go_ret
        exact .fin (int_eq HR.out.symm) hQ3
      · have HR := Lib.hid (HNX.out (cstep_more HN.out.2 hkp HX.out HY.out HGX.out HGY.out (by rw [← HV.out, ← HU.out]; exact h4)))
        have HGN : Hid (0 < k + 1 → goodP n (nth l (k + 1 - 1)) = true) := Lib.hid (fun _ => HX.out ▸ HGX.out)
        go_wp2
        go_roundw
        case rel => exact ⟨k + 1, by omega, by go_num, hQ3, HR, HGN⟩
        case measure => simp [intOf]; omega
    · have HR := Lib.hid (hF.out.trans (cfrom_end (by omega)))
      clear hF
      go_wp2
      go_ret
      exact .fin (int_eq HR.out.symm) hQ
end Go.Proofs.Ytifcgcdbebgahaa
