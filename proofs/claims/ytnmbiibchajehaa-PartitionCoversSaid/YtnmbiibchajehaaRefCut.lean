/- The contract of the reference's Cut. -/
import Derived.Test.YtnmbiibchajehaaRefLabels
import Derived.Test.YtnmbiibchajehaaMeet
namespace Go.Proofs.Ytnmbiibchajehaa
set_option linter.unusedVariables false
open Go.RowKit

theorem nth_labsP {z : List (Int × Int)} {k j : Nat} (hj : j < k) (hk : k ≤ z.length) : nth (labs (z.take k)) j = (lab (z.take k) (nthP z j) : Int) := by
  rw [nth_eq (by simp; omega), nthP_eq (by omega)]
  simp [labs]
theorem mem_take_nthP {z : List (Int × Int)} {k j : Nat} (hj : j < k) (hk : k ≤ z.length) : nthP z j ∈ z.take k := by
  rw [nthP_eq (by omega)]
  exact List.mem_take_iff_getElem.2 ⟨j, by omega, rfl⟩

set_option maxRecDepth 100000 in
theorem refCut_calls {S S' : Nat → Prop} {w : World} {va vb : Value} {a b : List Int} (ha : Ints S w va a) (hb : Ints S' w vb b) (hlen : a.length = b.length) (hmax : a.length ≤ 65536) :
    Calls Try.prog 49 #[va, vb] w (Post w fun w' r => Ints (fun b => w.heap.size ≤ b) w' r (meetS a b)) := by
  obtain ⟨aa, capa, rfl, haa, _, hma, hca, hfa⟩ := ha
  obtain ⟨ab, capb, rfl, hab, _, hmb, hcb, hfb⟩ := hb
  clear hma hmb
  obtain ⟨i0, hi, hz0, hz1, hz2⟩ := info_parts info3
  have hixa := idx_one Try.underlying22 hi hz1 haa
  have hixb := idx_one Try.underlying22 hi hz1 hab
  have HL0 := Lib.hid hlen
  clear hlen
  obtain ⟨z, hz⟩ : ∃ z, z = a.zip b := ⟨_, rfl⟩
  have hlz : z.length = a.length := by have := HL0.out; rw [hz]; simp; omega
  have hnz : ∀ j, j < a.length → nthP z j = (nth a j, nth b j) := fun j hj => by rw [hz]; exact zip_nth hj (by have := HL0.out; omega)
  have HZ := Lib.hid hz
  have HZl := Lib.hid hlz
  have HNZ := Lib.hid hnz
  clear hz hlz hnz
  go_enter Try.func49, Try.ntmps49
  go_wp2
  go_loopw [5, 6, 7] (fun vo nx i wr => ∃ k : Nat, k ≤ a.length ∧ i = .int .i64 k ∧ nx = .int .i64 ((firsts (z.take k)).length : Int) ∧ Below w.heap.size w wr ∧ wr.ownsRow w.heap.size 3 1 vo k ((labs (z.take k)).map (Value.int .i64)))
    (fun _ _ i _ => a.length - (intOf i).toNat)
  case atStart => exact ⟨0, by omega, rfl, rfl, .refl _ _, by simpa [labs] using World.ownsRow_nil _ _ _ _⟩
  case round =>
    obtain ⟨k, hk, rfl, rfl, hb, hown⟩ := hrel
    have hB := hb.size
    have HK := Lib.hid (show (z.take k).length = k by rw [List.length_take, HZl.out]; omega)
    have hFl : (firsts (z.take k)).length ≤ k := by have := length_firsts_le (z.take k); rw [HK.out] at this; exact this
    by_cases hlt : k < a.length
    · have hltb : k < b.length := by have := HL0.out; omega
      have hIn := Ints.of_own hown (labs_wf (by rw [HK.out]; omega))
      obtain ⟨av, capv, hv, hav, _, _, hcv, _⟩ := hIn
      have HL := Lib.hid (show (labs (z.take k)).length = k by rw [length_labs, HK.out])
      rw [HL.out] at hv hav hcv
      subst hv
      have hixv := idx_one Try.underlying22 hi hz1 hav
      have qa := hixa k hlt
      have qb := hixb k hltb
      have HT := Lib.hid (take_nthP (l := z) (k := k) (by rw [HZl.out]; exact hlt))
      obtain ⟨wo, rfl⟩ : ∃ wo : World, wo = wr := ⟨_, rfl⟩
      go_wp2
      go_loopw [8, 9] (fun lb jv wi => ∃ j : Nat, j ≤ k ∧ jv = .int .i64 j ∧ Below wo.heap.size wo wi ∧ ((lb = .int .i64 (-1) ∧ nthP z k ∉ z.take j) ∨ (nthP z k ∈ z.take k ∧ lb = .int .i64 (lab (z.take k) (nthP z k) : Int))))
        (fun lb j _ => (if intOf lb < 0 then 1 else 0) + (k - (intOf j).toNat))
      case atStart => exact ⟨0, by omega, rfl, .refl _ _, .inl ⟨rfl, by simp⟩⟩
      case round =>
        obtain ⟨j, hj, rfl, hbi, hcase⟩ := hrel
        rcases hcase with ⟨rfl, hnot⟩ | ⟨hin, rfl⟩
        · by_cases hjk : j < k
          · have pak := cells_at haa (ext_trans hb hbi) hca k hlt
            have paj := cells_at haa (ext_trans hb hbi) hca j (by omega)
            have qaj := hixa j (by omega)
            have pbk := cells_at hab (ext_trans hb hbi) hcb k hltb
            have pbj := cells_at hab (ext_trans hb hbi) hcb j (by omega)
            have qbj := hixb j (by omega)
            have qv := hixv j hjk
            have pv := cells_at hav hbi hcv j hjk
            have HV := Lib.hid (nth_labsP (z := z) hjk (by rw [HZl.out]; exact hk))
            have HM := Lib.hid (mem_take_nthP (z := z) hjk (by rw [HZl.out]; exact hk))
            have HJ := Lib.hid (take_nthP (l := z) (k := j) (by rw [HZl.out]; omega))
            have HNk := Lib.hid (HNZ.out k hlt)
            have HNj := Lib.hid (HNZ.out j (by omega))
            by_cases he : nth a j = nth a k
            · have he' : (nth a j == nth a k) = true := by simp [he]
              have HE := Lib.hid he
              clear he
              by_cases hf : nth b j = nth b k
              · have hf' : (nth b j == nth b k) = true := by simp [hf]
                have HF := Lib.hid hf
                clear hf
                go_wp2
                go_quiet (fail)
                go_wp2
                have HQ : nthP z j = nthP z k := by rw [HNk.out, HNj.out, HE.out, HF.out]
                go_roundw
                case rel => exact ⟨j + 1, by omega, by go_num, ext_drewN hbi _, .inr ⟨by rw [← HQ]; exact HM.out, by rw [HV.out, HQ]⟩⟩
                case measure =>
                  have e : ¬ (nth (labs (z.take k)) j < 0) := by rw [HV.out]; omega
                  simp [intOf, e]; omega
              · have hf' : (nth b j == nth b k) = false := by simp [hf]
                go_wp2
                go_quiet (fail)
                go_wp2
                go_roundw
                case rel => exact ⟨j + 1, by omega, by go_num, ext_drewN hbi _, .inl ⟨rfl, by rw [HJ.out]; simp; exact ⟨hnot, fun e => hf (by rw [HNk.out, HNj.out] at e; exact (congrArg Prod.snd e).symm)⟩⟩⟩
                case measure => simp [intOf]; omega
            · have he' : (nth a j == nth a k) = false := by simp [he]
              go_wp2
              go_quiet (fail)
              go_wp2
              go_roundw
              case rel => exact ⟨j + 1, by omega, by go_num, ext_drewN hbi _, .inl ⟨rfl, by rw [HJ.out]; simp; exact ⟨hnot, fun e => he (by rw [HNk.out, HNj.out] at e; exact (congrArg Prod.fst e).symm)⟩⟩⟩
              case measure => simp [intOf]; omega
          · have hjk' : j = k := by omega
            subst hjk'
            have HN := Lib.hid hnot
            clear hnot
            have hown2 := owns_ext hown hbi
            have hB2 := hbi.size
            go_wp2_with (at_builtin; refine wpList_push rfl _ _ 22 rfl 3 _ 8 Try.underlying22 info3 rfl w.heap.size _ _ _ rfl hown2 (.int .i64 ((firsts (z.take j)).length : Int)) rfl rfl (by omega) (by omega) (by omega) ?_; intro g' c' w1 hown1 hbel1 _ _)
            go_roundw
            case rel =>
              refine ⟨j + 1, by omega, by go_num, by rw [HT.out, firsts_new HN.out]; simp, (ext_trans hb hbi).trans hbel1, ?_⟩
              rw [HT.out, labs_snoc, lab_new HN.out]
              simpa using hown1
            case measure => simp [intOf]; omega
        · have hlab : (lab (z.take k) (nthP z k)) < k := by have := lab_lt hin; omega
          have hown2 := owns_ext hown hbi
          have hB2 := hbi.size
          by_cases hjk : j < k
          all_goals
            go_wp2_with (at_builtin; refine wpList_push rfl _ _ 22 rfl 3 _ 8 Try.underlying22 info3 rfl w.heap.size _ _ _ rfl hown2 (.int .i64 (lab (z.take k) (nthP z k) : Int)) rfl rfl (by omega) (by omega) (by omega) ?_; intro g' c' w1 hown1 hbel1 _ _)
            go_roundw
            case rel =>
              refine ⟨k + 1, by omega, by go_num, by rw [HT.out, firsts_old hin], (ext_trans hb hbi).trans hbel1, ?_⟩
              rw [HT.out, labs_snoc, lab_snoc hin]
              simpa using hown1
            case measure => simp [intOf]; omega
    · have hk' : k = a.length := by omega
      subst hk'
      go_wp2
      go_ret
      rw [List.take_of_length_le (by rw [HZl.out]; omega), HZ.out] at hown
      exact .mk hb (Ints.of_own hown (labs_wf (by have := HZl.out; rw [HZ.out] at this; omega)))
end Go.Proofs.Ytnmbiibchajehaa
