/- The reference's Insert. -/
import Derived.Test.YtifcgcdbebgahaaClI
namespace Go.Proofs.Ytifcgcdbebgahaa
set_option linter.unusedVariables false
open Go.RowKit
attribute [local go_sem ↓] Go.wp_at_zero Go.wp_at_succ

def insK (c : List Int) (v : Int) : Nat → Nat
  | 0 => 0
  | k + 1 => if v < varS (nth c k) then insK c v k else k + 1
theorem insK_le (c : List Int) (v : Int) : ∀ k, insK c v k ≤ k
  | 0 => Nat.le_refl _
  | k + 1 => by
    rw [insK]
    split
    · exact Nat.le_succ_of_le (insK_le c v k)
    · exact Nat.le_refl _
theorem insK_go {c : List Int} {v : Int} {k : Nat} (h0 : 0 < k) (h : v < varS (nth c (k - 1))) : insK c v k = insK c v (k - 1) := by
  obtain ⟨k, rfl⟩ : ∃ j, k = j + 1 := ⟨k - 1, by omega⟩
  rw [insK, if_pos (by simpa using h)]; rfl
theorem insK_end {c : List Int} {v : Int} {k : Nat} (h0 : 0 < k) (h : ¬ v < varS (nth c (k - 1))) : insK c v k = k := by
  obtain ⟨k, rfl⟩ : ∃ j, k = j + 1 := ⟨k - 1, by omega⟩
  rw [insK, if_neg (by simpa using h)]
def insP (c : List Int) (l : Int) : Option (List Int) := if memB c (wrap64 (-l)) = true then none else if memB c l = true then some c else some ((c.take (insK c (varS l) c.length) ++ [l]) ++ c.drop (insK c (varS l) c.length))
theorem insP_opp {c : List Int} {l : Int} (h : memB c (wrap64 (-l)) = true) : insP c l = none := by unfold insP; rw [if_pos h]
theorem insP_has {c : List Int} {l : Int} (h : memB c (wrap64 (-l)) = false) (h2 : memB c l = true) : insP c l = some c := by unfold insP; rw [if_neg (by rw [h]; simp), if_pos h2]
theorem insP_new {c : List Int} {l : Int} (h : memB c (wrap64 (-l)) = false) (h2 : memB c l = false) : insP c l = some ((c.take (insK c (varS l) c.length) ++ [l]) ++ c.drop (insK c (varS l) c.length)) := by unfold insP; rw [if_neg (by rw [h]; simp), if_neg (by rw [h2]; simp)]
theorem insP_length {c d : List Int} {l : Int} (h : insP c l = some d) : d.length ≤ c.length + 1 := by
  unfold insP at h
  split at h
  · cases h
  · split at h
    · cases h; omega
    · cases h
      have := insK_le c (varS l) c.length
      simp
      omega
/-- What lies from a place on. -/
theorem ints_from {P : Program} {T E : TypeId} {i : TypeInfo} (hT : P.underlying T = some (.slice E)) (hi : P.info? E = some i) (h1 : i.size = 1) {S : Nat → Prop} {w : World} {a : Option Addr} {cap : Nat} {l : List Int} (h : Ints S w (.slice a l.length cap) l) {k : Nat} (hk : k ≤ l.length) :
    ∃ a' cap', (∀ W : World, (Instr.slice T (.slice a l.length cap) (some (.int .i64 k)) none none).run P W = .ok (.slice a' (l.drop k).length cap') W) ∧ Ints S w (.slice a' (l.drop k).length cap') (l.drop k) := by
  obtain ⟨a0, cap0, e, had, hl, hm, hc, hf⟩ := h
  simp only [Value.slice.injEq, true_and] at e
  obtain ⟨rfl, rfl⟩ := e
  have hE : P.elem T = E := by simp [Program.elem, hT]
  refine ⟨if cap = k then a else a.map fun x => x.add k, cap - k, fun W => ?_, ?_⟩
  · rw [run_slice_l (w := W) T _ _ _ (by rw [hE]; exact hT) .i64 k (by omega) (by omega), hE]
    simp [sizeOf, typeInfo, hi, h1, Result.andThen, sliced]
  · have hlen : (l.drop k).length = l.length - k := List.length_drop
    refine ⟨_, _, rfl, ?_, by omega, by omega, fun j hj => ?_, fun y hy => hf y (List.mem_of_mem_drop hy)⟩
    · rcases had with ⟨h0, h0'⟩ | ⟨b, off, rfl, hb, hs⟩
      · exact .inl ⟨by omega, by omega⟩
      · split
        · exact .inr ⟨b, off, rfl, hb, hs⟩
        · exact .inr ⟨b, off + k, by simp [Addr.add], hb, hs⟩
    · rw [if_neg (by omega)]
      have := hc (j + k) (by omega)
      rcases had with ⟨h0, h0'⟩ | ⟨b, off, rfl, hb, hs⟩
      · omega
      · rw [adr_add] at this
        rw [show (some (⟨b, off, none⟩ : Addr)).map (fun x => x.add k) = some ⟨b, off + k, none⟩ by simp [Addr.add], adr_add, show off + k + j = off + (j + k) by omega, this]
        simp [nth, List.getD_eq_getElem?_getD, Nat.add_comm]
/-- A clause, or none. -/
def POptS (T : Nat → Prop) (t : Option (List Int)) (w' : World) (r : Value) : Prop := match t with
  | none => r = .tuple #[.slice none 0 0, .bool false]
  | some d => ∃ a cap, r = .tuple #[.slice a d.length cap, .bool true] ∧ Ints T w' (.slice a d.length cap) d

set_option maxRecDepth 100000 in
set_option maxHeartbeats 4000000 in
theorem refInsert_calls {S : Nat → Prop} {w : World} {va : Value} {c : List Int} {l : Int} (ha : Ints S w va c) (hl : WF l) (hn : c.length ≤ 1000000) :
    Calls Try.prog 78 #[va, .int .i64 l] w (Post w (POptS (fun b => S b ∨ w.heap.size ≤ b) (insP c l))) := by
  have h0 := ha
  obtain ⟨a, cap, rfl, ad, l1, lm, hc, hwf⟩ := ha
  unfold maxLen at lm
  obtain ⟨i, hi, hz1, hz2, hz3⟩ := info_parts info_int
  have HQ := Lib.hid (idx_one Try.underlying25 hi hz2 ad)
  have HC := Lib.hid hc
  have HI := Lib.hid (h0.mono (S' := TT) fun _ _ => trivial)
  have HIS := Lib.hid h0
  obtain ⟨b1, hb1⟩ : ∃ b1, b1 = memB c (wrap64 (-l)) := ⟨_, rfl⟩
  obtain ⟨b2, hb2⟩ : ∃ b2, b2 = memB c l := ⟨_, rfl⟩
  have H1 := Lib.hid ((refHas_quiet h0 (wrap64 (-l))).mono fun _ _ h => h.take)
  have H2 := Lib.hid (fun W (hW : QW w W) => (refHas_quiet (h0.ext hW.ext) l).mono fun _ _ h => h.take)
  rw [← hb1] at H1
  rw [← hb2] at H2
  have HB1 := Lib.hid hb1.symm
  have HB2 := Lib.hid hb2.symm
  have HWL := Lib.hid hl
  clear hb1 hb2 hc hwf h0 hl
  go_enter Try.func78, Try.ntmps78
  go_wp2_with fail
  refine H1.out.mono ?_
  rintro _ w2 ⟨_, rfl, hq2, rfl⟩
  clear H1
  cases b1 with
  | true =>
    have HR := Lib.hid (insP_opp HB1.out)
    go_wp2
    refine bodyPost_ret (v := .tuple #[.slice none 0 0, .bool false]) (by simp [results, Try.results78, go_sem]) rfl ?_
    rw [HR.out]
    exact .mk hq2.ext rfl
  | false =>
    go_wp2_with fail
    refine (H2.out w2 hq2).mono ?_
    rintro _ w3 ⟨_, rfl, hq3, rfl⟩
    have hq := hq2.trans hq3
    clear H2 hq2 hq3
    cases b2 with
    | true =>
      have HR := Lib.hid (insP_has HB1.out HB2.out)
      go_wp2
      refine bodyPost_ret (v := .tuple #[.slice a c.length cap, .bool true]) (by simp [results, Try.results78, go_sem]) rfl ?_
      rw [HR.out]
      exact .mk hq.ext ⟨_, _, rfl, (HIS.out.ext hq.ext).mono fun _ h => .inl h⟩
    | false =>
      have HR := Lib.hid (insP_new HB1.out HB2.out)
      obtain ⟨E, hE⟩ : ∃ E, E = insK c (varS l) c.length := ⟨_, rfl⟩
      rw [← hE] at HR
      have HE := Lib.hid hE
      clear hE
      go_wp2
      go_loopw [6] (fun i wr => ∃ k : Nat, k ≤ c.length ∧ i = .int .i64 k ∧ QW w wr ∧ Hid (E = insK c (varS l) k)) (fun i _ => (intOf i).toNat)
      case atStart => exact ⟨c.length, Nat.le_refl _, rfl, hq, HE⟩
      case round =>
        obtain ⟨k, hk, rfl, hQ, hF⟩ := hrel
        by_cases h0 : k = 0
        · have hEk : E = k := by rw [hF.out, h0]; rfl
          have e0 : decide (0 < k) = false := by simp [h0]
          clear h0
          -- TAIL
          rw [hEk] at HR
          clear hF hEk HE
          have hkc : k ≤ cap := by omega
          have hap := HI.out
          have I1 := Lib.hid (hap.take hk)
          obtain ⟨a', cap', qs, hi2⟩ := ints_from Try.underlying25 hi hz2 hap hk
          obtain ⟨pre, hpre⟩ : ∃ pre, pre = c.take k := ⟨_, rfl⟩
          obtain ⟨suf, hsuf⟩ : ∃ suf, suf = c.drop k := ⟨_, rfl⟩
          have hpl : pre.length = k := by rw [hpre, List.length_take]; omega
          have hsl : suf.length + k = c.length := by rw [hsuf, List.length_drop]; omega
          rw [← hpre, ← hsuf] at HR
          rw [← hpre] at I1
          rw [← hsuf] at qs hi2
          have HI2 := Lib.hid hi2
          have B1 := Lib.hid (show (0 + k) * 8 ≤ 140737488355328 by omega)
          have B2 := Lib.hid (show (k + 1 + suf.length) * 8 ≤ 140737488355328 by omega)
          have HPL := Lib.hid hpl
          have hs0 := hQ.ext.size
          have HQX := Lib.hid hQ.ext
          clear hpre hsuf hap hi2 hpl hQ
          go_wp2_with (first
            | (at_builtin; refine wpList_appendAll rfl (.tmp 33) (.tmp 36) 25 rfl 3 _ 8 Try.underlying25 info_int rfl w.heap.size (.slice none 0 0) 0 [] rfl (World.ownsRow_nil _ _ _ _) TT _ _ _ (pre.map (Value.int .i64)) rfl (HPL.out ▸ ((ints_ad I1.out).agree (.of_ext HQX.out))) (by simp; exact HPL.out) (fun j hj => ints_cells I1.out HQX.out j (HPL.out.symm ▸ hj)) (oneCell_ints pre) B1.out (by omega) hs0 ?_; intro v3 w3 hown3 hb3 hag3 hv3; have O1 := Lib.hid (show w3.ownsRow w.heap.size 3 1 v3 k (pre.map (Value.int .i64)) from by simpa using hown3); have HB3 := Lib.hid (HQX.out.trans hb3); have hs3 := HB3.out.size; clear hown3 hb3 hag3 hv3)
            | (at_builtin; refine wpList_push rfl (.tmp 38) (.tmp 40) 25 rfl 3 _ 8 Try.underlying25 info_int rfl w.heap.size _ _ _ rfl O1.out (.int .i64 l) rfl rfl (by omega) (by omega) hs3 ?_; intro g4 c4 w4 hown4 hb4 _ _; have O2 := Lib.hid hown4; have HB4 := Lib.hid (HB3.out.trans hb4); have hs4 := HB4.out.size; clear hown4 hb4)
            | (at_builtin; refine wpList_appendAll rfl (.tmp 42) (.tmp 45) 25 rfl 3 _ 8 Try.underlying25 info_int rfl w.heap.size _ _ _ rfl O2.out TT _ _ _ (suf.map (Value.int .i64)) rfl ((ints_ad HI2.out).agree (.of_ext HB4.out)) (by simp) (fun j hj => ints_cells HI2.out HB4.out j hj) (oneCell_ints suf) B2.out (by omega) hs4 ?_; intro v5 w5 hown5 hb5 _ _; have O3 := Lib.hid hown5; have HB5 := Lib.hid (HB4.out.trans hb5); clear hown5 hb5))
          have hlen : ((pre ++ [l]) ++ suf).length = k + 1 + suf.length := by have := HPL.out; simp; omega
          have O5 : w5.ownsRow w.heap.size 3 1 v5 ((pre ++ [l]) ++ suf).length (((pre ++ [l]) ++ suf).map (Value.int .i64)) := by rw [hlen]; simpa using O3.out
          have I5 := Ints.of_own O5 (fun y hy => by
            rcases List.mem_append.1 hy with h | h
            · exact wf_snoc I1.out.wf HWL.out y h
            · exact HI2.out.wf y h)
          obtain ⟨a5, c5, rfl, _⟩ := I5.form
          refine bodyPost_ret (v := .tuple #[.slice a5 ((pre ++ [l]) ++ suf).length c5, .bool true]) (by simp [results, Try.results78, go_sem]) rfl ?_
          rw [HR.out]
          exact .mk HB5.out ⟨_, _, rfl, I5.mono fun _ h => .inr h⟩
          -- LIAT
        · have hkp : 0 < k := by omega
          have qp := HQ.out (k - 1) (by omega)
          rw [show ((k - 1 : Nat) : Int) = (k : Int) - 1 by omega] at qp
          have cp := cells_at ad hQ.ext HC.out (k - 1) (by omega)
          obtain ⟨y, hy⟩ : ∃ y, y = nth c (k - 1) := ⟨_, rfl⟩
          rw [← hy] at cp
          have HY := Lib.hid hy
          have hk1 : (1 : Int) ≤ (k : Int) := by omega
          have hk0 : (0 : Int) < (k : Int) := by omega
          have hwr : IntKind.i64.wrap ((k : Int) - 1) = (k : Int) - 1 := IntWalk.i64_in _ (by omega)
          clear hy h0
          by_cases h4 : varS l < varS y
          · have HRR := Lib.hid (hF.out.trans (insK_go hkp (HY.out ▸ h4)))
            go_wp2_with fail
            refine ((var_quiet _ _).mono fun _ _ h => h.take).mono ?_
            rintro _ w4 ⟨_, rfl, hq4, rfl⟩
            have hQ4 := hQ.trans hq4
            go_wp2_with fail
            refine ((var_quiet _ _).mono fun _ _ h => h.take).mono ?_
            rintro _ w5 ⟨_, rfl, hq5, rfl⟩
            have hQ5 := hQ4.trans hq5
            clear hq4 hq5 hQ hQ4 cp qp
            go_wp2
            go_roundw
            case rel => exact ⟨k - 1, by omega, by go_num, hQ5, HRR⟩
            case measure => simp [intOf]; omega
          · have HRR := Lib.hid (hF.out.trans (insK_end hkp (HY.out ▸ h4)))
            have hEk : E = k := HRR.out
            have h4' : decide (varS l < varS y) = false := by simpa using h4
            go_wp2_with fail
            refine ((var_quiet _ _).mono fun _ _ h => h.take).mono ?_
            rintro _ w4 ⟨_, rfl, hq4, rfl⟩
            have hQ4 := hQ.trans hq4
            go_wp2_with fail
            refine ((var_quiet _ _).mono fun _ _ h => h.take).mono ?_
            rintro _ w5 ⟨_, rfl, hq5, rfl⟩
            have hQ5 := hQ4.trans hq5
            clear hq4 hq5 hQ hQ4 cp qp
            have hQ := hQ5
            clear hQ5 HRR HY
            -- TAIL
            rw [hEk] at HR
            clear hF hEk HE
            have hkc : k ≤ cap := by omega
            have hap := HI.out
            have I1 := Lib.hid (hap.take hk)
            obtain ⟨a', cap', qs, hi2⟩ := ints_from Try.underlying25 hi hz2 hap hk
            obtain ⟨pre, hpre⟩ : ∃ pre, pre = c.take k := ⟨_, rfl⟩
            obtain ⟨suf, hsuf⟩ : ∃ suf, suf = c.drop k := ⟨_, rfl⟩
            have hpl : pre.length = k := by rw [hpre, List.length_take]; omega
            have hsl : suf.length + k = c.length := by rw [hsuf, List.length_drop]; omega
            rw [← hpre, ← hsuf] at HR
            rw [← hpre] at I1
            rw [← hsuf] at qs hi2
            have HI2 := Lib.hid hi2
            have B1 := Lib.hid (show (0 + k) * 8 ≤ 140737488355328 by omega)
            have B2 := Lib.hid (show (k + 1 + suf.length) * 8 ≤ 140737488355328 by omega)
            have HPL := Lib.hid hpl
            have hs0 := hQ.ext.size
            have HQX := Lib.hid hQ.ext
            clear hpre hsuf hap hi2 hpl hQ
            go_wp2_with (first
              | (at_builtin; refine wpList_appendAll rfl (.tmp 33) (.tmp 36) 25 rfl 3 _ 8 Try.underlying25 info_int rfl w.heap.size (.slice none 0 0) 0 [] rfl (World.ownsRow_nil _ _ _ _) TT _ _ _ (pre.map (Value.int .i64)) rfl (HPL.out ▸ ((ints_ad I1.out).agree (.of_ext HQX.out))) (by simp; exact HPL.out) (fun j hj => ints_cells I1.out HQX.out j (HPL.out.symm ▸ hj)) (oneCell_ints pre) B1.out (by omega) hs0 ?_; intro v3 w3 hown3 hb3 hag3 hv3; have O1 := Lib.hid (show w3.ownsRow w.heap.size 3 1 v3 k (pre.map (Value.int .i64)) from by simpa using hown3); have HB3 := Lib.hid (HQX.out.trans hb3); have hs3 := HB3.out.size; clear hown3 hb3 hag3 hv3)
              | (at_builtin; refine wpList_push rfl (.tmp 38) (.tmp 40) 25 rfl 3 _ 8 Try.underlying25 info_int rfl w.heap.size _ _ _ rfl O1.out (.int .i64 l) rfl rfl (by omega) (by omega) hs3 ?_; intro g4 c4 w4 hown4 hb4 _ _; have O2 := Lib.hid hown4; have HB4 := Lib.hid (HB3.out.trans hb4); have hs4 := HB4.out.size; clear hown4 hb4)
              | (at_builtin; refine wpList_appendAll rfl (.tmp 42) (.tmp 45) 25 rfl 3 _ 8 Try.underlying25 info_int rfl w.heap.size _ _ _ rfl O2.out TT _ _ _ (suf.map (Value.int .i64)) rfl ((ints_ad HI2.out).agree (.of_ext HB4.out)) (by simp) (fun j hj => ints_cells HI2.out HB4.out j hj) (oneCell_ints suf) B2.out (by omega) hs4 ?_; intro v5 w5 hown5 hb5 _ _; have O3 := Lib.hid hown5; have HB5 := Lib.hid (HB4.out.trans hb5); clear hown5 hb5))
            have hlen : ((pre ++ [l]) ++ suf).length = k + 1 + suf.length := by have := HPL.out; simp; omega
            have O5 : w5.ownsRow w.heap.size 3 1 v5 ((pre ++ [l]) ++ suf).length (((pre ++ [l]) ++ suf).map (Value.int .i64)) := by rw [hlen]; simpa using O3.out
            have I5 := Ints.of_own O5 (fun y hy => by
              rcases List.mem_append.1 hy with h | h
              · exact wf_snoc I1.out.wf HWL.out y h
              · exact HI2.out.wf y h)
            obtain ⟨a5, c5, rfl, _⟩ := I5.form
            refine bodyPost_ret (v := .tuple #[.slice a5 ((pre ++ [l]) ++ suf).length c5, .bool true]) (by simp [results, Try.results78, go_sem]) rfl ?_
            rw [HR.out]
            exact .mk HB5.out ⟨_, _, rfl, I5.mono fun _ h => .inr h⟩
            -- LIAT
end Go.Proofs.Ytifcgcdbebgahaa
