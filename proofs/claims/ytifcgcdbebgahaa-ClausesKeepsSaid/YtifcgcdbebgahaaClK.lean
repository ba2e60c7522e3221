/- The reference's sorted. -/
import Derived.Test.YtifcgcdbebgahaaClJ
namespace Go.Proofs.Ytifcgcdbebgahaa
set_option linter.unusedVariables false
open Go.RowKit
attribute [local go_sem ↓] Go.wp_at_zero Go.wp_at_succ

def sortedP (c : List Int) : Option (List Int) := c.foldl (fun o x => o.bind fun d => insP d x) (some [])
theorem sorted_succ {c : List Int} {k : Nat} (h : k < c.length) : sortedP (c.take (k + 1)) = (sortedP (c.take k)).bind fun d => insP d (nth c k) := by
  unfold sortedP
  rw [take_nth h, List.foldl_append]
  rfl
theorem fold_none (c : List Int) : c.foldl (fun (o : Option (List Int)) x => o.bind fun d => insP d x) none = none := by
  induction c with
  | nil => rfl
  | cons x c ih => simpa using ih
theorem sorted_none {c : List Int} {k : Nat} (h : sortedP (c.take k) = none) : sortedP c = none := by
  rw [← List.take_append_drop k c]
  unfold sortedP at h ⊢
  rw [List.foldl_append, h, fold_none]
theorem sorted_length' : ∀ (c : List Int) (o d : List Int), c.foldl (fun (o : Option (List Int)) x => o.bind fun d => insP d x) (some o) = some d → d.length ≤ o.length + c.length
  | [], o, d, h => by cases h; simp
  | x :: c, o, d, h => by
    simp only [List.foldl_cons, Option.bind_some] at h
    cases hi : insP o x with
    | none => rw [hi, fold_none] at h; cases h
    | some e =>
      rw [hi] at h
      have h1 := sorted_length' c e d h
      have h2 := insP_length hi
      simp
      omega
theorem sorted_length {c d : List Int} (h : sortedP c = some d) : d.length ≤ c.length := by
  have := sorted_length' c [] d h
  simpa using this

set_option maxRecDepth 100000 in
set_option maxHeartbeats 4000000 in
theorem refSorted_calls {S : Nat → Prop} {w : World} {va : Value} {c : List Int} (ha : Ints S w va c) (hn : c.length ≤ 1000000) :
    Calls Try.prog 64 #[va] w (Post w (POptS (fun b => w.heap.size ≤ b) (sortedP c))) := by
  obtain ⟨a, cap, rfl, ad, l1, lm, hc, hwf⟩ := ha
  unfold maxLen at lm
  obtain ⟨i, hi, hz1, hz2, hz3⟩ := info_parts info_int
  have HQ := Lib.hid (idx_one Try.underlying25 hi hz2 ad)
  have HC := Lib.hid hc
  have HW := Lib.hid hwf
  obtain ⟨E, hE⟩ : ∃ E, E = sortedP c := ⟨_, rfl⟩
  rw [← hE]
  have HE := Lib.hid hE
  clear hc hwf hE
  go_enter Try.func64, Try.ntmps64
  go_wp2
  go_loopw [4, 5] (fun v i wr => ∃ (k : Nat) (d : List Int) (b : Option Addr) (cp : Nat), k ≤ c.length ∧ i = .int .i64 k ∧ v = .slice b d.length cp ∧ Below w.heap.size w wr ∧ Ints (fun b => w.heap.size ≤ b) wr (.slice b d.length cp) d ∧ Hid (sortedP (c.take k) = some d)) (fun _ i _ => c.length - (intOf i).toNat)
  case atStart => exact ⟨0, [], none, 0, Nat.zero_le _, rfl, rfl, .refl _ _, .nil _ _, Lib.hid rfl⟩
  case round =>
    obtain ⟨k, d, b, cp, hk, rfl, rfl, hb, hd, hF⟩ := hrel
    by_cases hlt : k < c.length
    · have q := HQ.out k hlt
      have cx := cells_at ad hb HC.out k hlt
      have HS := Lib.hid (sorted_succ hlt)
      have hwx : WF (nth c k) := HW.out _ (by rw [nth_eq hlt]; exact List.getElem_mem hlt)
      obtain ⟨x, hx⟩ : ∃ x, x = nth c k := ⟨_, rfl⟩
      rw [← hx] at cx HS hwx
      have HS : Hid (sortedP (c.take (k + 1)) = insP d x) := Lib.hid (by rw [HS.out, hF.out]; rfl)
      have hdl := sorted_length hF.out
      rw [List.length_take] at hdl
      have KI := Lib.hid (refInsert_calls hd hwx (by omega))
      obtain ⟨o, ho⟩ : ∃ o, o = insP d x := ⟨_, rfl⟩
      rw [← ho] at HS KI
      clear hx ho hdl
      go_wp2_with fail
      refine KI.out.mono ?_
      rintro _ w2 ⟨_, rfl, hb2, hp⟩
      have hbb := ext_trans hb hb2
      have hbs := hb.size
      clear KI hb hb2 cx
      cases o with
      | none =>
        cases hp
        have HR := Lib.hid (HE.out.trans (sorted_none HS.out))
        go_wp2
        refine bodyPost_ret (v := .tuple #[.slice none 0 0, .bool false]) (by simp [results, Try.results64, go_sem]) rfl ?_
        rw [HR.out]
        exact .mk hbb rfl
      | some e =>
        obtain ⟨b2, cp2, rfl, he⟩ := hp
        have HEI := Lib.hid (he.mono (S' := fun b => w.heap.size ≤ b) fun b h => by omega)
        clear he
        go_wp2
        go_roundw
        case rel => exact ⟨k + 1, e, b2, cp2, by omega, by go_num, rfl, hbb, HEI.out, HS⟩
        case measure => simp [intOf]; omega
    · obtain rfl : k = c.length := by omega
      rw [List.take_length] at hF
      have HR := Lib.hid (HE.out.trans hF.out)
      have HD := Lib.hid hd
      clear hd hF
      go_wp2
      refine bodyPost_ret (v := .tuple #[.slice b d.length cp, .bool true]) (by simp [results, Try.results64, go_sem]) rfl ?_
      rw [HR.out]
      exact .mk hb ⟨_, _, rfl, HD.out⟩
end Go.Proofs.Ytifcgcdbebgahaa
