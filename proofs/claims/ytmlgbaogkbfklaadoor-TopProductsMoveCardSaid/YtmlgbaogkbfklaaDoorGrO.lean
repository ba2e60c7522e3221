/- Permutations: the reference's check. -/
import Derived.Test.YtmlgbaogkbfklaaDoorGrM
namespace Go.Proofs.YtmlgbaogkbfklaaDoor
set_option linter.unusedVariables false
open Go.RowKit
attribute [local go_sem ↓] Go.wp_at_zero Go.wp_at_succ

/-- A permutation of the processes below the list's length. -/
structure PermN (pl : List Nat) : Prop where
  pos : 1 ≤ pl.length
  le : pl.length ≤ 5
  lt : ∀ p ∈ pl, p < pl.length
  nodup : pl.Nodup
def IsP (l : List Int) : Prop := ∃ pl : List Nat, l = pl.map (Nat.cast : Nat → Int) ∧ PermN pl
def inP (l : List Int) (i : Nat) : Prop := 0 ≤ nth l i ∧ nth l i < l.length
def aptP (l : List Int) (i k : Nat) : Prop := nth l k ≠ nth l i
theorem isP_of {l : List Int} (h1 : 1 ≤ l.length) (h5 : l.length ≤ 5) (hr : ∀ i, i < l.length → inP l i) (hd : ∀ i, i < l.length → ∀ k, k < i → aptP l i k) : IsP l := by
  refine ⟨l.map Int.toNat, ?_, ?_⟩
  · rw [List.map_map]
    refine (List.ext_getElem (by simp) fun i hi hj => ?_)
    have := (hr i hi).1
    rw [nth_eq hi] at this
    simp
    omega
  · refine ⟨by simpa using h1, by simpa using h5, ?_, ?_⟩
    · intro p hp
      obtain ⟨x, hx, rfl⟩ := List.mem_map.1 hp
      obtain ⟨i, hi, rfl⟩ := List.getElem_of_mem hx
      have := hr i hi
      unfold inP at this
      rw [nth_eq hi] at this
      simp
      omega
    · rw [List.nodup_iff_pairwise_ne, List.pairwise_iff_getElem]
      intro i j hi hj hij e
      simp only [List.getElem_map] at e
      simp at hi hj
      have h1 := (hr i hi).1
      have h2 := (hr j hj).1
      have h3 := hd j hj i hij
      unfold aptP at h3
      rw [nth_eq hi] at h1 h3
      rw [nth_eq hj] at h2 h3
      omega
theorem isP_len {l : List Int} (h : IsP l) : 1 ≤ l.length ∧ l.length ≤ 5 := by
  obtain ⟨pl, rfl, H⟩ := h
  simpa using ⟨H.pos, H.le⟩
theorem isP_in {l : List Int} (h : IsP l) {i : Nat} (hi : i < l.length) : inP l i := by
  obtain ⟨pl, rfl, H⟩ := h
  unfold inP
  rw [nth_eq hi]
  simp at hi ⊢
  exact H.lt _ (List.getElem_mem hi)
theorem isP_apt {l : List Int} (h : IsP l) {i k : Nat} (hi : i < l.length) (hk : k < i) : aptP l i k := by
  obtain ⟨pl, rfl, H⟩ := h
  unfold aptP
  rw [nth_eq hi, nth_eq (by omega)]
  simp at hi ⊢
  intro e
  have := List.nodup_iff_pairwise_ne.1 H.nodup
  rw [List.pairwise_iff_getElem] at this
  exact this k i (by omega) hi hk (by omega)
def PPrm (l : List Int) (w : World) (e : Ending) (W' : World) : Prop := ∃ x : Int, e = .returned (.int .i64 x) ∧ QW w W' ∧ (x = 0 ↔ IsP l)
theorem pprm_no {l : List Int} {w W : World} {x : Int} (hx : x ≠ 0) (h : ¬ IsP l) (hq : QW w W) : PPrm l w (.returned (.int .i64 x)) W := ⟨x, rfl, hq, fun e => absurd e hx, fun e => absurd e h⟩
set_option maxRecDepth 100000 in
set_option maxHeartbeats 4000000 in
theorem refPerm_calls {S : Nat → Prop} {w : World} {v : Value} {l : List Int} (hv : Ints S w v l) : Calls Tryd.prog 10 #[v] w (PPrm l w) := by
  obtain ⟨a, cap, rfl, ad, l1, lm⟩ := hv.form
  unfold maxLen at lm
  obtain ⟨i0, hi, hz0, hz1, hz2⟩ := info_parts info_int
  have HQ := Lib.hid (idx_one Tryd.underlying33 hi hz1 ad)
  have HC := Lib.hid hv
  have HCC : Hid (∀ W, QW w W → ∀ k, k < l.length → W.cell? (adr a k) = some (.int .i64 (nth l k))) := Lib.hid fun W hW k hk => by
    obtain ⟨a0, cap0, e, _, _, _, hc, _⟩ := hv.ext hW.ext
    simp only [Value.slice.injEq] at e
    obtain ⟨rfl, _, _⟩ := e
    exact hc k hk
  have hq0 := QW.refl w
  clear hv hi hz0 hz1 hz2 ad
  by_cases h1 : l.length < 1
  · have NO : Hid (¬ IsP l) := Lib.hid fun h => by have := isP_len h; omega
    go_enter Tryd.func10, Tryd.ntmps10
    go_wp2
    go_ret
    exact pprm_no (by decide) NO.out hq0
  by_cases h2 : 5 < l.length
  · have NO : Hid (¬ IsP l) := Lib.hid fun h => by have := isP_len h; omega
    go_enter Tryd.func10, Tryd.ntmps10
    go_wp2
    go_ret
    exact pprm_no (by decide) NO.out hq0
  go_enter Tryd.func10, Tryd.ntmps10
  go_wp2
  go_loopw [3, 4] (fun i _ wr => ∃ k : Nat, k ≤ l.length ∧ i = .int .i64 k ∧ QW w wr ∧ Hid (∀ i, i < k → inP l i ∧ ∀ j, j < i → aptP l i j)) (fun i _ _ => l.length - (intOf i).toNat)
  case atStart => exact ⟨0, Nat.zero_le _, rfl, hq0, Lib.hid fun i hi => absurd hi (by omega)⟩
  case round =>
    clear hq0
    obtain ⟨k, hk, rfl, hQ, HG⟩ := hrel
    obtain ⟨wo, hwo⟩ : ∃ wo : World, wo = wr := ⟨_, rfl⟩
    rw [← hwo] at hQ ⊢
    clear hwo
    by_cases hlt : k < l.length
    · have q := HQ.out k hlt
      have ck := HCC.out wo hQ k hlt
      obtain ⟨x, hx⟩ : ∃ x, x = nth l k := ⟨_, rfl⟩
      rw [← hx] at ck
      have HX := Lib.hid hx
      clear hx
      by_cases hx0 : x < 0
      · have NO : Hid (¬ IsP l) := Lib.hid fun h => by have := (isP_in h hlt).1; rw [← HX.out] at this; omega
        go_wp2
        go_ret
        exact pprm_no (by decide) NO.out hQ
      by_cases hx1 : (l.length : Int) ≤ x
      · have NO : Hid (¬ IsP l) := Lib.hid fun h => by have := (isP_in h hlt).2; rw [← HX.out] at this; omega
        go_wp2
        go_ret
        exact pprm_no (by decide) NO.out hQ
      · go_wp2
        go_loopw [4] (fun j wi => ∃ m : Nat, m ≤ k ∧ j = .int .i64 m ∧ QW w wi ∧ Hid (∀ j, j < m → aptP l k j)) (fun j _ => k - (intOf j).toNat)
        case atStart => exact ⟨0, Nat.zero_le _, rfl, hQ, Lib.hid fun i hi => absurd hi (by omega)⟩
        case round =>
          clear ck hQ
          obtain ⟨m, hm, rfl, hQ, HA⟩ := hrel
          by_cases hml : m < k
          · have qm := HQ.out m (by omega)
            have ck := HCC.out wr hQ k hlt
            have cm := HCC.out wr hQ m (by omega)
            rw [← HX.out] at ck
            obtain ⟨y, hy⟩ : ∃ y, y = nth l m := ⟨_, rfl⟩
            rw [← hy] at cm
            have HY := Lib.hid hy
            clear hy
            by_cases e : y = x
            · subst e
              have NO : Hid (¬ IsP l) := Lib.hid fun h => (isP_apt h hlt hml) (HY.out.symm.trans HX.out)
              have hQ2 := Lib.hid fun n => hQ.drewN n
              go_wp2
              go_quiet (fail)
              go_wp2
              go_ret
              exact pprm_no (by decide) NO.out (hQ2.out _)
            · have de : (y == x) = false := by simp [e]
              have HA2 : Hid (∀ j, j < m + 1 → aptP l k j) := Lib.hid fun j hj => by
                by_cases ej : j = m
                · subst ej; unfold aptP; rw [← HX.out, ← HY.out]; exact e
                · exact HA.out j (by omega)
              have hQ2 := Lib.hid fun n => hQ.drewN n
              clear e
              go_wp2
              go_quiet (fail)
              go_wp2
              go_roundw
              case rel => exact ⟨m + 1, by omega, by go_num, hQ2.out _, HA2⟩
              case measure => simp [intOf]; omega
          · obtain rfl : m = k := by omega
            have HG2 : Hid (∀ i, i < m + 1 → inP l i ∧ ∀ j, j < i → aptP l i j) := Lib.hid fun i hi => by
              by_cases ei : i = m
              · subst ei; exact ⟨⟨by rw [← HX.out]; omega, by rw [← HX.out]; omega⟩, HA.out⟩
              · exact HG.out i (by omega)
            go_wp2
            go_roundw
            case rel => exact ⟨m + 1, by omega, by go_num, hQ, HG2⟩
            case measure => simp [intOf]; omega
    · obtain rfl : k = l.length := by omega
      have YES : Hid (IsP l) := Lib.hid (isP_of (by omega) (by omega) (fun i hi => (HG.out i hi).1) fun i hi => (HG.out i hi).2)
      go_wp2
      go_ret
      exact ⟨0, rfl, hQ, fun _ => YES.out, fun _ => rfl⟩
end Go.Proofs.YtmlgbaogkbfklaaDoor
