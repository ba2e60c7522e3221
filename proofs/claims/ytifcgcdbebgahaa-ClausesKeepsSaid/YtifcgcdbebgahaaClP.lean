/- The program's Eval. -/
import Derived.Test.YtifcgcdbebgahaaClO
namespace Go.Proofs.Ytifcgcdbebgahaa
set_option linter.unusedVariables false
open Go.RowKit
attribute [local go_sem ↓] Go.wp_at_zero Go.wp_at_succ

/-- The model makes the literal true. -/
def litP (m : List Int) (x : Int) : Bool := nth m (varP x - 1).toNat == x
set_option maxRecDepth 100000 in
set_option maxHeartbeats 2000000 in
theorem evalLit_quiet {S : Nat → Prop} {w : World} {a : Option Addr} {cap P : Nat} {m : List Int} (hm : Ints S w (.slice a m.length cap) m) (hP : w.cell? ⟨P, 0, none⟩ = some (.slice a m.length cap)) {x : Int} (hx : 1 ≤ varP x ∧ varP x ≤ m.length) :
    Calls Try.prog 42 #[.int .i64 x, .pointer (some ⟨P, 0, none⟩)] w (QuietP w (.bool (litP m x))) := by
  obtain ⟨a0, cap0, e, ad, l1, lm, hc, hwf⟩ := hm
  simp only [Value.slice.injEq, true_and] at e
  obtain ⟨rfl, rfl⟩ := e
  unfold maxLen at lm
  obtain ⟨i, hi, hz1, hz2, hz3⟩ := info_parts info_int
  obtain ⟨v, hv⟩ : ∃ v, v = varP x := ⟨_, rfl⟩
  have HV := Lib.hid (fun W => (hv ▸ variable_quiet W x : Calls Try.prog 43 #[.int .i64 x] W (QuietP W (.int .i64 v))))
  rw [← hv] at hx
  obtain ⟨k, hk⟩ : ∃ k : Nat, v = k + 1 := ⟨(v - 1).toNat, by omega⟩
  subst hk
  have hlt : k < m.length := by omega
  have q := idx_one Try.underlying25 hi hz2 ad k hlt
  have c := cells_at ad (.refl _ _) hc k hlt
  have HL : Hid (litP m x = (nth m k == x)) := Lib.hid (by unfold litP; rw [← hv]; simp)
  obtain ⟨y, hy⟩ : ∃ y, y = nth m k := ⟨_, rfl⟩
  rw [← hy] at c HL
  have hwr : IntKind.i64.wrap ((k : Int) + 1 - 1) = (k : Int) := by rw [Int.add_sub_cancel]; exact IntWalk.i64_in _ (by omega)
  clear hi hz1 hz2 hz3 hc hwf hv hy hx
  go_enter Try.func42, Try.ntmps42
  go_wp2_with fail
  go_quiet ((go_at_call 43; exact quiet_calls (HV.out _)))
  go_wp2
  go_ret
  exact .fin (congrArg Value.bool HL.out.symm) ((QW.refl _).drewN _)
set_option maxRecDepth 100000 in
set_option maxHeartbeats 2000000 in
theorem evalRow_quiet {S S' : Nat → Prop} {w : World} {a : Option Addr} {cap P : Nat} {m r : List Int} {u : Value} (hm : Ints S w (.slice a m.length cap) m) (hP : w.cell? ⟨P, 0, none⟩ = some (.slice a m.length cap)) (hr : Ints S' w u r) (hx : ∀ x ∈ r, 1 ≤ varP x ∧ varP x ≤ m.length) :
    Calls Try.prog 40 #[u, .pointer (some ⟨P, 0, none⟩)] w (QuietP w (.bool (!(r.any (litP m))))) := by
  have K := Lib.hid ((containsInts_quiet hr (g := 42) (cp := .pointer (some ⟨P, 0, none⟩)) (litP m) (fun args w => by rfl)
    (fun W hW k hk => evalLit_quiet (hm.ext hW.ext) (cell_ext hP hW.ext) (hx _ (by rw [nth_eq hk]; exact List.getElem_mem hk)))).mono fun _ _ h => h.take)
  obtain ⟨b, hb⟩ : ∃ b, b = r.any (litP m) := ⟨_, rfl⟩
  rw [← hb] at K ⊢
  obtain ⟨au, cu, rfl, _⟩ := hr.form
  clear hm hP hr hx hb
  go_enter Try.func40, Try.ntmps40
  go_wp2_with fail
  refine K.out.mono ?_
  rintro _ w2 ⟨_, rfl, hq2, rfl⟩
  clear K
  go_wp2
  go_ret
  exact .fin rfl hq2
end Go.Proofs.Ytifcgcdbebgahaa
