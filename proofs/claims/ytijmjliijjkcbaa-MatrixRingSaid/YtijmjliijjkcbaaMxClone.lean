/- The clone of a list of rows; slices.Contains. -/
import Derived.Test.YtijmjliijjkcbaaMxPlay
import Derived.Lib.SliceRun
namespace Go.Proofs.Ytijmjliijjkcbaa
set_option linter.unusedVariables false
open Go.RowKit
attribute [local go_sem ↓] Go.wp_at_zero Go.wp_at_succ

/-- What a call returns: a new row of the same rows. -/
def RetRows (S : Nat → Prop) (base : Nat) (ll : List (List Int)) (w' : World) (r : Value) : Prop := ∃ vs, w'.ownsRow base 38 1 r ll.length vs ∧ RefsV (fun b => S b ∧ b < base) w' vs ll

set_option maxRecDepth 100000 in
set_option maxHeartbeats 1000000 in
theorem cloneL_calls {S : Nat → Prop} {w : World} {v : Value} {ll : List (List Int)} (h : Lists S w v ll) (hn : ll.length ≤ 1000000) :
    Calls Try.prog 34 #[v] w (Post w (RetRows S w.heap.size ll)) := by
  obtain ⟨a, cap, rfl, ad, l1, l2⟩ := h.form
  cases a with
  | none =>
    have h0 : ll.length = 0 ∧ cap = 0 := by
      rcases ad with h | ⟨b, off, e, _⟩
      · exact h
      · cases e
    obtain ⟨h0, rfl⟩ := h0
    obtain rfl : ll = [] := List.length_eq_zero_iff.1 h0
    clear h ad l1 l2 h0
    have hn1 := @Lib.run_eql_slice_nil Try.prog w 22 38 none 0 0 0 0 Try.underlying22
    go_enter Try.func34, Try.ntmps34
    go_wp2
    go_ret
    exact .mk (.refl _ _) ⟨[], World.ownsRow_nil _ _ _ _, .nil _ _⟩
  | some x =>
    obtain ⟨vs0, hv0, hvc, hvr, hv1⟩ := h.block.vals
    have ex := ext_alloc w (.cells #[] 38)
    have hown0 := (row_new w [] 38).owns (base := w.heap.size) (Nat.le_refl _) (by simp [maxLen])
    have OW := Lib.hid hown0
    have AD := Lib.hid (ad.agree (.of_ext ex))
    have HCL : Hid (∀ j, j < ll.length → (w.alloc (.cells #[] 38)).cell? (adr (some x) j) = some (vs0.getD j undef)) := Lib.hid (fun j hj => (ad.cell (.of_ext ex) hj).trans (hvc j hj))
    have HV0 := Lib.hid hv0
    have HV1 := Lib.hid hv1
    have HVR := Lib.hid hvr
    have B1 : Hid ((0 + ll.length) * 24 ≤ 140737488355328) := Lib.hid (by omega)
    clear hown0 hv0 hvc hvr hv1 h ad
    have hn1 := @Lib.run_eql_slice_nil Try.prog w 22 38 (some x) ll.length cap 0 0 Try.underlying22
    go_enter Try.func34, Try.ntmps34
    go_wp2_with (at_builtin; refine wpList_appendAll rfl (.tmp 5) (.tmp 6) 22 rfl 38 _ 24 Try.underlying22 info_ints rfl w.heap.size (.slice (some ⟨w.heap.size, 0, none⟩) 0 0) 0 [] rfl OW.out S (some x) ll.length cap vs0 rfl AD.out HV0.out HCL.out HV1.out B1.out (by omega) (by simp) ?_; intro v3 w3 hown3 hb3 hag3 hv3)
    rw [Nat.zero_add, List.nil_append] at hown3
    have hbb : Below w.heap.size w w3 := ex.trans hb3
    have HO := Lib.hid hown3
    clear hown3 hag3 hv3 hb3
    go_wp2
    go_ret
    exact .mk hbb ⟨vs0, HO.out, ⟨HVR.out.1, fun j hj => (HVR.out.2 j hj).ext hbb⟩⟩

theorem contains_gen {S : Nat → Prop} {w : World} {v : Value} {l : List Int} (h : Ints S w v l) (x : Int) :
    Calls Try.prog 36 #[v, .int .i64 x] w (Post w fun _ r => r = .bool (memB l x)) := by
  have hlen := h.len
  unfold maxLen at hlen
  obtain ⟨a, cap, rfl, ad, l1, l2, hc, hf⟩ := h
  have key : l.contains x = memB l x := by
    rw [Bool.eq_iff_iff, memB_iff, List.contains_iff_mem]
  rcases ad with ⟨h0, hc0⟩ | ⟨b, off, rfl, _, _⟩
  · obtain rfl : l = [] := List.length_eq_zero_iff.1 h0
    refine (Try.slices_Contains_int_empty a cap x w).mono ?_
    rintro _ _ ⟨rfl, rfl⟩
    exact .mk (.refl _ _) rfl
  · refine (Try.slices_Contains_int b off l.length cap l x w (Nat.le_refl _) (by omega) (fun j hj => ?_)).mono ?_
    · have := hc j hj
      rw [adr_add] at this
      rw [this]
      simp [nth]
    · rintro _ _ ⟨rfl, rfl⟩
      rw [List.take_length, key]
      exact .mk (.refl _ _) rfl
theorem leftTo_next (E : List (List Int)) (row : List Int) (k : Nat) : leftTo E row (k + 1) = if memB row (lead (nthL E k)) = true then xorL (leftTo E row k) (nthL E k) else leftTo E row k := rfl
theorem RefsV.ext {S : Nat → Prop} {w w' : World} {vs : List Value} {ll : List (List Int)} (h : RefsV S w vs ll) (hw : Below w.heap.size w w') : RefsV S w' vs ll := h.agree (.of_ext hw)
/-- A new row of rows with a further one, behind later stores elsewhere. -/
theorem rows_more {base : Nat} {S0 : Nat → Prop} {w w6 wz : World} {v v6 u : Value} {vs : List Value} {ll : List (List Int)} {l : List Int} {e : TypeId} {T : Nat → Prop}
    (ho : w.ownsRow base e 1 v ll.length vs) (hr : RefsV S0 w vs ll) (hS0 : ∀ b, S0 b → v.ownBlock ≠ some b ∧ T b) (hu : Ints (fun b => v.ownBlock ≠ some b ∧ T b) w u l) 
    (h6 : w6.ownsRow base e 1 v6 (ll.length + 1) (vs ++ [u])) (hag : ∀ S : Nat → Prop, (∀ k, v.ownBlock = some k → ¬ S k) → Agree S w w6)
    (hz : Agree T w6 wz) (hv6 : ∀ k, v6.ownBlock = some k → T k) : Lists TT wz v6 (ll ++ [l]) := by
  have h1 : Agree S0 w wz := (hag _ fun k hk h => (hS0 k h).1 hk).trans (hz.mono fun b hb => (hS0 b hb).2)
  have h2 : Agree (fun b => v.ownBlock ≠ some b ∧ T b) w wz := (hag _ fun k hk h => h.1 hk).trans (hz.mono fun b hb => hb.2)
  refine Lists.of_own (base := base) (e := e) (vs := vs ++ [u]) (by rw [List.length_append]; exact owns_agree h6 hz hv6) (RefsV.snoc ⟨(hr.agree h1).1, fun j hj => ((hr.agree h1).2 j hj).mono fun _ _ => trivial⟩ ((hu.agree h2).mono fun _ _ => trivial)) (fun _ _ => trivial)
theorem row_set2 {w : World} {g : Nat} {e : TypeId} {a b : Value} (h : Row w g e [a, b]) (x y : Value) : Row ((w.setCell ⟨g, 0, none⟩ x).setCell ⟨g, 1, none⟩ y) g e [x, y] := (h.set 0 x).set 1 y
end Go.Proofs.Ytijmjliijjkcbaa
