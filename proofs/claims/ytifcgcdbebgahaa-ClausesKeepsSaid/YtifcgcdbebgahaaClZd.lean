/- The sorted keys of a map. -/
import Derived.Test.YtifcgcdbebgahaaClZc
namespace Go.Proofs.Ytifcgcdbebgahaa
set_option linter.unusedVariables false
open Go.RowKit Go.Maps Go.Sort Go.Shelf
attribute [local go_sem ↓] Go.wp_at_zero Go.wp_at_succ

theorem has_keys {H : Type} {D : DataW H} {x : Int} (h : Maps.has D (.int .i64 x) = true) : x ∈ intKeys D := by
  cases D with
  | map es =>
    rw [Maps.has_eq, List.any_eq_true] at h
    obtain ⟨p, hp, hs⟩ := h
    have e := WideAt.sameKey_eq hs
    exact List.mem_map.2 ⟨p, hp, by rw [e]; rfl⟩
  | _ => simp [Maps.has] at h
theorem sort_sorted {ks : List Int} (h : ks.Pairwise (· < ·)) : ks.mergeSort leI = ks := by
  refine List.mergeSort_of_pairwise (h.imp fun {a b} h => ?_)
  simp only [leI, decide_eq_true_eq]
  omega
theorem map_keys {w : World} {b n : Nat} {D : DataW Value} {m : Int → Option Value} {ks : List Int} (ho : w.ownsMap Try.prog 3 heldR b n D) (hm : ∀ x, keyI.ok x → Maps.has D (keyI.kl x) = (m x).isSome)
    (hs : ks.Pairwise (· < ·)) (hw : ∀ x ∈ ks, WF x) (hk : ∀ x, WF x → (x ∈ ks ↔ (m x).isSome = true)) : ks.Perm (intKeys D) := by
  refine CollectedI.perm (left := fun _ => false) ⟨hs.imp fun {a b} h e => by omega, fun x => ?_⟩ ho (Maps.int_keyed Try.underlying3) Try.underlying3 fun _ => rfl
  by_cases hx : WF x
  · have := hm x hx
    change Maps.has D (.int .i64 x) = _ at this
    rw [hk x hx, this]
    simp
  · constructor
    · intro h; exact absurd (hw x h) hx
    · rintro ⟨h, _⟩
      exact absurd (WF.of_lit (intKeys_wf ho Try.underlying3 x (has_keys h))) hx
theorem keys_calls (b : Nat) (W : World) : Calls Try.prog 77 #[.map (some b)] W fun e w' => e = .returned (.func (.func 84) #[] #[.pointer (some ⟨W.heap.size, 0, none⟩)]) ∧ w' = W.alloc (.cells #[.map (some b)] 71) :=
  (callsIn_wide (n := 5)).1 (AnyZI.keys_in Try.keysA Fence.wide 5 trivial rfl (some b) W)
theorem sorts_ok (m : Nat) : AnyZI.SortsIn Try.prog Try.sortedA_ren Fence.wide m :=
  ⟨fun blk off cap ss W hH hblk hsz => callsIn_wide.2 (AnyM.slices_Sort_int Try.sortA blk off cap ss W hH hblk hsz),
   fun p cap W => callsIn_wide.2 (AnyM.slices_Sort_int_none Try.sortA p cap W)⟩
set_option maxHeartbeats 1000000 in
/-- slices.Sorted at what maps.Keys handed back. -/
theorem sortedKeys_calls {w : World} {b n : Nat} {m : Int → Option Value} {ks : List Int} (h : MapV keyI w b m n) (hn : n ≤ 1000000) (hs : ks.Pairwise (· < ·)) (hw : ∀ x ∈ ks, WF x) (hk : ∀ x, WF x → (x ∈ ks ↔ (m x).isSome = true)) :
    Calls Try.prog 76 #[.func (.func 84) #[] #[.pointer (some ⟨w.heap.size, 0, none⟩)]] (w.alloc (.cells #[.map (some b)] 71)) (Post (w.alloc (.cells #[.map (some b)] 71)) (OwnInts w.heap.size ks)) := by
  obtain ⟨D, hown, hsz, hm⟩ := h
  have hbl := hown.lt
  have hseq : SeqGives Fence.wide 2 Try.prog 84 #[.pointer (some ⟨w.heap.size, 0, none⟩)] encZ (fun ss => ss.Perm (intKeys D)) (Maps.size D) (w.alloc (.cells #[.map (some b)] 71)) :=
    AnyZI.keys_gives (ρ := Try.keysA_ren) { Try.keysA with } Fence.wide _ trivial rfl (by omega) w.heap.size b n D _ (by simp) (by simp) (by
      obtain ⟨es, clock, hb, Ft, hs, hD⟩ := hown
      exact ⟨es, clock, (Below.heap_alloc _ _ b hbl).trans hb, Ft, hs, hD⟩)
  have cS := AnyZI.sorted_in Try.sortedA Fence.wide 5 trivial trivial trivial trivial rfl (by omega) (sorts_ok _) (enters_of Try.func83 (by kernel_rfl) rfl) 84 #[.pointer (some ⟨w.heap.size, 0, none⟩)] trivial (enters_of Try.func84 (by kernel_rfl) rfl) _ _ (by rw [hsz]; unfold maxLen; omega) (by rw [hsz]; omega) _ hseq
  change CallsIn _ _ Try.prog 76 _ _ _ at cS
  refine ((callsIn_wide (n := 5)).1 cS).mono ?_
  rintro _ w' ⟨v, ss, rfl, hS, hrow, hnil, hb⟩
  have hp : ss.Perm ks := hS.trans (map_keys hown (fun x hx => (hm x hx).1) hs hw hk).symm
  have e : ss.mergeSort (fun x y => decide (x ≤ y)) = ks := (mergeSort_of_perm_i hp).trans (sort_sorted hs)
  rw [e, hp.length_eq] at hrow
  exact .mk hb (owns_base hrow (by simp))
end Go.Proofs.Ytifcgcdbebgahaa
