/- slices.IndexFunc over a closure of the program. -/
import Derived.Test.YtifcgcdbebgahaaClN
namespace Go.Proofs.Ytifcgcdbebgahaa
set_option linter.unusedVariables false
open Go.RowKit
attribute [local go_sem ↓] Go.wp_at_zero Go.wp_at_succ

set_option maxRecDepth 100000 in
set_option maxHeartbeats 2000000 in
theorem indexRows_quiet {S : Nat → Prop} {w : World} {va : Value} {l : List (List Int)} (ha : Lists S w va l) {g : Nat} {cp : Value} (p : List Int → Bool)
    (eg : ∀ args w, (callFunc g args).run Try.prog w = .ok (.enter g args) w)
    (hp : ∀ W, QW w W → ∀ k, k < l.length → ∀ u, Ints S W u (nthL l k) → Calls Try.prog g #[u, cp] W (QuietP W (.bool (p (nthL l k))))) :
    Calls Try.prog 39 #[va, .func (.func g) #[] #[cp]] w (QuietP w (.int .i64 (wrongFrom (fun r => !p r) l 0))) := by
  obtain ⟨a, cap, rfl, ad, l1, lm⟩ := ha.form
  unfold maxLen at lm
  obtain ⟨i0, hi, hz0, hz1, hz2⟩ := info_parts info_ints
  have HQA := Lib.hid (idx_one Try.underlying22 hi hz1 ad)
  have HA := Lib.hid ha
  have HP := Lib.hid (fun W hW k hk u hu => (hp W hW k hk u hu).mono fun _ _ h => h.take)
  clear hi hz0 hz1 hz2 ha hp
  go_enter Try.func39, Try.ntmps39
  go_wp2
  go_loopw [8] (fun i wr => ∃ k : Nat, k ≤ l.length ∧ i = .int .i64 k ∧ QW w wr ∧ Hid (∀ j, j < k → (!p (nthL l j)) = true)) (fun i _ => l.length - (intOf i).toNat)
  case atStart => exact ⟨0, Nat.zero_le _, rfl, .refl _, Lib.hid fun j hj => absurd hj (by omega)⟩
  case round =>
    obtain ⟨k, hk, rfl, hQ, hB⟩ := hrel
    by_cases hlt : k < l.length
    · have q := HQA.out k hlt
      obtain ⟨u, cu, iu⟩ := HA.out.at hQ.ext hlt
      obtain ⟨b, hb⟩ : ∃ b, b = p (nthL l k) := ⟨_, rfl⟩
      have KP := Lib.hid (HP.out wr hQ k hlt u iu)
      rw [← hb] at KP
      have HBB := Lib.hid hb
      clear hb iu
      go_wp2_with fail
      refine KP.out.mono ?_
      rintro _ w2 ⟨_, rfl, hq2, rfl⟩
      have hQ2 := hQ.trans hq2
      clear KP hQ hq2 cu
      cases b with
      | true =>
        have HR := Lib.hid (wrongFrom_hit (p := fun r => !p r) hlt hB.out (by simp [← HBB.out]))
        clear hB
        go_wp2
        go_ret
        exact .fin (int_eq HR.out.symm) hQ2
      | false =>
        have HN : Hid (∀ j, j < k + 1 → (!p (nthL l j)) = true) := Lib.hid fun j hj => by
          by_cases e : j = k
          · subst e; simp [← HBB.out]
          · exact hB.out j (by omega)
        clear hB
        go_wp2
        go_roundw
        case rel => exact ⟨k + 1, by omega, by go_num, hQ2, HN⟩
        case measure => simp [intOf]; omega
    · obtain rfl : k = l.length := by omega
      have HR := Lib.hid (wrongFrom_none (p := fun r => !p r) hB.out)
      clear hB
      go_wp2
      go_ret
      exact .fin (int_eq HR.out.symm) hQ

/-! elements that are ints -/
theorem ints_cells0 {S : Nat → Prop} {w : World} {a : Option Addr} {n cap : Nat} {l : List Int} (h : Ints S w (.slice a n cap) l) : ∀ j, j < l.length → w.cell? (adr a j) = some (.int .i64 (nth l j)) := by
  obtain ⟨a0, cap0, e, had, hl, hm, hc, hf⟩ := h
  simp only [Value.slice.injEq] at e
  obtain ⟨rfl, rfl, rfl⟩ := e
  exact hc
def idxI (p : Int → Bool) (l : List Int) : Int := if l.any p = true then (l.findIdx p : Int) else -1
theorem idxI_none {p : Int → Bool} {l : List Int} (h : ∀ j, j < l.length → p (nth l j) = false) : idxI p l = -1 := by
  unfold idxI
  rw [if_neg]
  intro e
  obtain ⟨x, hx, hp⟩ := List.any_eq_true.1 e
  obtain ⟨j, hj, rfl⟩ := List.getElem_of_mem hx
  have := h j hj
  rw [nth_eq hj, hp] at this
  cases this
theorem idxI_hit {p : Int → Bool} {l : List Int} {k : Nat} (hk : k < l.length) (h : ∀ j, j < k → p (nth l j) = false) (h2 : p (nth l k) = true) : idxI p l = k := by
  unfold idxI
  rw [if_pos (List.any_eq_true.2 ⟨nth l k, by rw [nth_eq hk]; exact List.getElem_mem hk, h2⟩)]
  congr 1
  rw [nth_eq hk] at h2
  refine (List.findIdx_eq hk).2 ⟨h2, fun j hj => ?_⟩
  rw [← nth_eq (by omega)]
  exact h j hj
theorem idxI_any {p : Int → Bool} {l : List Int} : 0 ≤ idxI p l ↔ l.any p = true := by
  unfold idxI
  split
  · rename_i h; exact ⟨fun _ => h, fun _ => by omega⟩
  · rename_i h; exact ⟨fun h => absurd h (by omega), fun e => absurd e h⟩

set_option maxRecDepth 100000 in
set_option maxHeartbeats 2000000 in
theorem indexInts_quiet {S : Nat → Prop} {w : World} {va : Value} {l : List Int} (ha : Ints S w va l) {g : Nat} {cp : Value} (p : Int → Bool)
    (eg : ∀ args w, (callFunc g args).run Try.prog w = .ok (.enter g args) w)
    (hp : ∀ W, QW w W → ∀ k, k < l.length → Calls Try.prog g #[.int .i64 (nth l k), cp] W (QuietP W (.bool (p (nth l k))))) :
    Calls Try.prog 72 #[va, .func (.func g) #[] #[cp]] w (QuietP w (.int .i64 (idxI p l))) := by
  obtain ⟨a, cap, rfl, ad, l1, lm⟩ := ha.form
  unfold maxLen at lm
  obtain ⟨i0, hi, hz0, hz1, hz2⟩ := info_parts info_int
  have HQA := Lib.hid (idx_one Try.underlying25 hi hz1 ad)
  have HC := Lib.hid (ints_cells0 ha)
  have HP := Lib.hid (fun W hW k hk => (hp W hW k hk).mono fun _ _ h => h.take)
  clear hi hz0 hz1 hz2 ha hp
  go_enter Try.func72, Try.ntmps72
  go_wp2
  go_loopw [8] (fun i wr => ∃ k : Nat, k ≤ l.length ∧ i = .int .i64 k ∧ QW w wr ∧ Hid (∀ j, j < k → p (nth l j) = false)) (fun i _ => l.length - (intOf i).toNat)
  case atStart => exact ⟨0, Nat.zero_le _, rfl, .refl _, Lib.hid fun j hj => absurd hj (by omega)⟩
  case round =>
    obtain ⟨k, hk, rfl, hQ, hB⟩ := hrel
    by_cases hlt : k < l.length
    · have q := HQA.out k hlt
      have cu := cells_at ad hQ.ext HC.out k hlt
      obtain ⟨x, hx⟩ : ∃ x, x = nth l k := ⟨_, rfl⟩
      obtain ⟨b, hb⟩ : ∃ b, b = p x := ⟨_, rfl⟩
      have KP := Lib.hid (HP.out wr hQ k hlt)
      rw [← hx] at cu
      rw [← hx, ← hb] at KP
      rw [hx] at hb
      have HBB := Lib.hid hb
      clear hb hx
      go_wp2_with fail
      refine KP.out.mono ?_
      rintro _ w2 ⟨_, rfl, hq2, rfl⟩
      have hQ2 := hQ.trans hq2
      clear KP hQ hq2 cu
      cases b with
      | true =>
        have HR := Lib.hid (idxI_hit hlt hB.out HBB.out.symm)
        clear hB
        go_wp2
        go_ret
        exact .fin (int_eq HR.out.symm) hQ2
      | false =>
        have HN : Hid (∀ j, j < k + 1 → p (nth l j) = false) := Lib.hid fun j hj => by
          by_cases e : j = k
          · subst e; exact HBB.out.symm
          · exact hB.out j (by omega)
        clear hB
        go_wp2
        go_roundw
        case rel => exact ⟨k + 1, by omega, by go_num, hQ2, HN⟩
        case measure => simp [intOf]; omega
    · obtain rfl : k = l.length := by omega
      have HR := Lib.hid (idxI_none hB.out)
      clear hB
      go_wp2
      go_ret
      exact .fin (int_eq HR.out.symm) hQ

set_option maxRecDepth 100000 in
theorem containsInts_quiet {S : Nat → Prop} {w : World} {va : Value} {l : List Int} (ha : Ints S w va l) {g : Nat} {cp : Value} (p : Int → Bool)
    (eg : ∀ args w, (callFunc g args).run Try.prog w = .ok (.enter g args) w)
    (hp : ∀ W, QW w W → ∀ k, k < l.length → Calls Try.prog g #[.int .i64 (nth l k), cp] W (QuietP W (.bool (p (nth l k))))) :
    Calls Try.prog 41 #[va, .func (.func g) #[] #[cp]] w (QuietP w (.bool (l.any p))) := by
  have K := Lib.hid ((indexInts_quiet ha p eg hp).mono fun _ _ h => h.take)
  have HI := Lib.hid (idxI_any (p := p) (l := l))
  obtain ⟨a, cap, rfl, _⟩ := ha.form
  clear hp ha eg
  obtain ⟨x, hx⟩ : ∃ x, x = idxI p l := ⟨_, rfl⟩
  obtain ⟨b, hb⟩ : ∃ b, b = l.any p := ⟨_, rfl⟩
  rw [← hx] at K HI
  rw [← hb] at HI ⊢
  clear hx hb
  go_enter Try.func41, Try.ntmps41
  go_wp2_with fail
  refine K.out.mono ?_
  rintro _ w2 ⟨_, rfl, hq2, rfl⟩
  clear K
  cases b with
  | true =>
    have h0 : 0 ≤ x := HI.out.2 rfl
    go_wp2
    go_ret
    exact .fin (by simp [h0]) hq2
  | false =>
    have h0 : ¬ 0 ≤ x := fun h => by cases HI.out.1 h
    go_wp2
    go_ret
    exact .fin (by simp [h0]) hq2
end Go.Proofs.Ytifcgcdbebgahaa
