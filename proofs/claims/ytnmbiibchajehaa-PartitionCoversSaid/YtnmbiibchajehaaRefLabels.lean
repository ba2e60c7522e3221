/- The contract of the reference's Labels. -/
import Derived.Test.YtnmbiibchajehaaPart
namespace Go.Proofs.Ytnmbiibchajehaa
set_option linter.unusedVariables false
open Go.RowKit

theorem nth_labs {l : List Int} {k j : Nat} (hj : j < k) (hk : k ≤ l.length) : nth (labs (l.take k)) j = (lab (l.take k) (nth l j) : Int) := by
  rw [nth_eq (by simp; omega), nth_eq (by omega)]
  simp [labs]
theorem mem_take_nth {l : List Int} {k j : Nat} (hj : j < k) (hk : k ≤ l.length) : nth l j ∈ l.take k := by
  rw [nth_eq (by omega)]
  exact List.mem_take_iff_getElem.2 ⟨j, by omega, rfl⟩

set_option maxRecDepth 100000 in
theorem refLabels_calls {S : Nat → Prop} {w : World} {v : Value} {l : List Int} (h : Ints S w v l) (hlen : l.length ≤ 65536) :
    Calls Try.prog 48 #[v] w (Post w fun w' r => Ints (fun b => w.heap.size ≤ b) w' r (labs l)) := by
  obtain ⟨a, cap, rfl, ha, _, hm, hc, hf⟩ := h
  clear hm
  obtain ⟨i0, hi, hz0, hz1, hz2⟩ := info_parts info3
  have hix := idx_one Try.underlying22 hi hz1 ha
  go_enter Try.func48, Try.ntmps48
  go_wp2
  go_loopw [3, 4, 5] (fun vo nx i wr => ∃ k : Nat, k ≤ l.length ∧ i = .int .i64 k ∧ nx = .int .i64 ((firsts (l.take k)).length : Int) ∧ Below w.heap.size w wr ∧ wr.ownsRow w.heap.size 3 1 vo k ((labs (l.take k)).map (Value.int .i64)))
    (fun _ _ i _ => l.length - (intOf i).toNat)
  case atStart => exact ⟨0, by omega, rfl, rfl, .refl _ _, by simpa [labs] using World.ownsRow_nil _ _ _ _⟩
  case round =>
    obtain ⟨k, hk, rfl, rfl, hb, hown⟩ := hrel
    have hB := hb.size
    have HK := Lib.hid (show (l.take k).length = k by simp; omega)
    have hFl : (firsts (l.take k)).length ≤ k := by have := length_firsts_le (l.take k); rw [HK.out] at this; exact this
    by_cases hlt : k < l.length
    · have hIn := Ints.of_own hown (labs_wf (by rw [HK.out]; omega))
      obtain ⟨av, capv, hv, hav, _, _, hcv, _⟩ := hIn
      have HL := Lib.hid (show (labs (l.take k)).length = k by simp; omega)
      rw [HL.out] at hv hav hcv
      subst hv
      have hixv := idx_one Try.underlying22 hi hz1 hav
      have q := hix k hlt
      have HT := Lib.hid (take_nth hlt)
      obtain ⟨wo, rfl⟩ : ∃ wo : World, wo = wr := ⟨_, rfl⟩
      go_wp2
      go_loopw [6, 7] (fun lb jv wi => ∃ j : Nat, j ≤ k ∧ jv = .int .i64 j ∧ Below wo.heap.size wo wi ∧ ((lb = .int .i64 (-1) ∧ nth l k ∉ l.take j) ∨ (nth l k ∈ l.take k ∧ lb = .int .i64 (lab (l.take k) (nth l k) : Int))))
        (fun lb j _ => (if intOf lb < 0 then 1 else 0) + (k - (intOf j).toNat))
      case atStart => exact ⟨0, by omega, rfl, .refl _ _, .inl ⟨rfl, by simp⟩⟩
      case round =>
        obtain ⟨j, hj, rfl, hbi, hcase⟩ := hrel
        rcases hcase with ⟨rfl, hnot⟩ | ⟨hin, rfl⟩
        · by_cases hjk : j < k
          · have pk := cells_at ha (ext_trans hb hbi) hc k hlt
            have pj := cells_at ha (ext_trans hb hbi) hc j (by omega)
            have qj := hix j (by omega)
            have qv := hixv j hjk
            have pv := cells_at hav hbi hcv j hjk
            have HV := Lib.hid (nth_labs (l := l) hjk hk)
            have HM := Lib.hid (mem_take_nth (l := l) hjk hk)
            have HJ := Lib.hid (take_nth (l := l) (k := j) (by omega))
            by_cases he : nth l j = nth l k
            · have he' : (nth l j == nth l k) = true := by simp [he]
              have HE := Lib.hid he
              clear he
              go_wp2
              go_quiet (fail)
              go_wp2
              go_roundw
              case rel => exact ⟨j + 1, by omega, by go_num, ext_drewN hbi _, .inr ⟨by rw [← HE.out]; exact HM.out, by rw [HV.out, HE.out]⟩⟩
              case measure =>
                have e : ¬ (nth (labs (l.take k)) j < 0) := by rw [HV.out]; omega
                simp [intOf, e]; omega
            · have he' : (nth l j == nth l k) = false := by simp [he]
              go_wp2
              go_quiet (fail)
              go_wp2
              go_roundw
              case rel => exact ⟨j + 1, by omega, by go_num, ext_drewN hbi _, .inl ⟨rfl, by rw [HJ.out]; simp; exact ⟨hnot, fun e => he e.symm⟩⟩⟩
              case measure => simp [intOf]; omega
          · have hjk' : j = k := by omega
            subst hjk'
            have HN := Lib.hid hnot
            clear hnot
            have hown2 := owns_ext hown hbi
            have hB2 := hbi.size
            go_wp2_with (at_builtin; refine wpList_push rfl _ _ 22 rfl 3 _ 8 Try.underlying22 info3 rfl w.heap.size _ _ _ rfl hown2 (.int .i64 ((firsts (l.take j)).length : Int)) rfl rfl (by omega) (by omega) (by omega) ?_; intro g' c' w1 hown1 hbel1 _ _)
            go_roundw
            case rel =>
              refine ⟨j + 1, by omega, by go_num, by rw [HT.out, firsts_new HN.out]; simp, (ext_trans hb hbi).trans hbel1, ?_⟩
              rw [HT.out, labs_snoc, lab_new HN.out]
              simpa using hown1
            case measure => simp [intOf]; omega
        · have hlab : (lab (l.take k) (nth l k)) < k := by have := lab_lt hin; omega
          have hown2 := owns_ext hown hbi
          have hB2 := hbi.size
          by_cases hjk : j < k
          all_goals
            go_wp2_with (at_builtin; refine wpList_push rfl _ _ 22 rfl 3 _ 8 Try.underlying22 info3 rfl w.heap.size _ _ _ rfl hown2 (.int .i64 (lab (l.take k) (nth l k) : Int)) rfl rfl (by omega) (by omega) (by omega) ?_; intro g' c' w1 hown1 hbel1 _ _)
            go_roundw
            case rel =>
              refine ⟨k + 1, by omega, by go_num, by rw [HT.out, firsts_old hin], (ext_trans hb hbi).trans hbel1, ?_⟩
              rw [HT.out, labs_snoc, lab_snoc hin]
              simpa using hown1
            case measure => simp [intOf]; omega
    · have hk' : k = l.length := by omega
      subst hk'
      go_wp2
      go_ret
      rw [List.take_length] at hown
      exact .mk hb (Ints.of_own hown (labs_wf hlen))
end Go.Proofs.Ytnmbiibchajehaa
