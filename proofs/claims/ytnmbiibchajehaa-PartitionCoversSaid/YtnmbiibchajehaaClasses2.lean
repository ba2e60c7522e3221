/- The contracts of Count, and of the reference's Number, Class, Classes and Count. -/
import Derived.Test.YtnmbiibchajehaaClasses
namespace Go.Proofs.Ytnmbiibchajehaa
set_option linter.unusedVariables false
open Go.RowKit

def countR (l : List Int) : Int × Int := if checkS l = 0 then (numS l, 0) else (0, checkS l)

set_option maxRecDepth 100000 in
theorem count_calls {S : Nat → Prop} {w : World} {v : Value} {l : List Int} (h : Ints S w v l) :
    Calls Try.prog 20 #[v] w (Post w fun _ r => r = .tuple #[.int .i64 (countR l).1, .int .i64 (countR l).2]) := by
  go_enter Try.func20, Try.ntmps20
  go_wp2_with fail
  refine (classes_calls h).mono ?_
  rintro _ w1 ⟨_, rfl, hb1, v, rfl, a, cap, rfl, _⟩
  go_wp2
  go_ret2
  refine .mk hb1 ?_
  have := numS_nonneg l
  have e1 : ((classesR l).1.length : Int) = (countR l).1 := by
    unfold classesR countR; split
    · simp only [length_classesS]; omega
    · rfl
  have e2 : (classesR l).2 = (countR l).2 := by unfold classesR countR; split <;> rfl
  rw [← e1, ← e2]
  rfl

set_option maxRecDepth 100000 in
theorem refNumber_calls {S : Nat → Prop} {w : World} {v : Value} {l : List Int} (h : Ints S w v l) (hg : Good l) :
    Calls Try.prog 46 #[v] w (Post w fun _ r => r = .int .i64 (numS l)) := by
  have h0 := h
  obtain ⟨a, cap, rfl, ha, _, _, hc, hf⟩ := h0
  obtain ⟨i0, hi, hz0, hz1, hz2⟩ := info_parts info3
  have hix := idx_one Try.underlying22 hi hz1 ha
  have hlen := hg.1
  have HG := Lib.hid hg.2
  go_enter Try.func46, Try.ntmps46
  go_wp2
  go_loop [3, 4] (fun n i => ∃ k : Nat, k ≤ l.length ∧ i = .int .i64 k ∧ n = .int .i64 (numS (l.take k))) (fun _ i => l.length - (intOf i).toNat)
  case atStart => exact ⟨0, by omega, rfl, rfl⟩
  case round =>
    obtain ⟨k, hk, rfl, rfl⟩ := hrel
    by_cases hlt : k < l.length
    · have q := hix k hlt
      have p := hc k hlt
      have hgk := HG.out k hlt
      have hnk := numS_le l HG.out k hk
      have hn0 := numS_nonneg (l.take k)
      have HT := Lib.hid (take_nth hlt)
      go_wp2
      go_round
      case rel => exact ⟨k + 1, by omega, by go_num, int_eq (by rw [HT.out, numS_snoc]; split <;> omega)⟩
      case measure => simp [intOf]; omega
    · go_wp2
      go_ret
      exact .same (int_eq (by rw [List.take_of_length_le (by omega)]))

set_option maxRecDepth 100000 in
theorem refClass_calls {S : Nat → Prop} {w : World} {v : Value} {l : List Int} (h : Ints S w v l) (hlen : l.length ≤ 65536) (y : Int) :
    Calls Try.prog 47 #[v, .int .i64 y] w (Post w fun w' r => Ints (fun b => w.heap.size ≤ b) w' r (classS l y)) := by
  have h0 := h
  obtain ⟨a, cap, rfl, ha, _, _, hc, hf⟩ := h0
  obtain ⟨i0, hi, hz0, hz1, hz2⟩ := info_parts info3
  have hix := idx_one Try.underlying22 hi hz1 ha
  have hle : ∀ k, k ≤ l.length → (classS (l.take k) y).length ≤ k := by
    intro k hk
    unfold classS
    rw [List.length_map]
    refine Nat.le_trans (List.length_filter_le _ _) ?_
    simp; omega
  have hwf : ∀ k, k ≤ l.length → ∀ x ∈ classS (l.take k) y, WF x := by
    intro k hk x hx
    unfold classS at hx
    obtain ⟨i, hi, rfl⟩ := List.mem_map.1 hx
    have := (List.mem_filter.1 hi).1
    simp at this
    exact WF.small (by omega)
  have HLE := Lib.hid hle
  have HWF := Lib.hid hwf
  clear hle hwf
  go_enter Try.func47, Try.ntmps47
  go_wp2
  go_loopw [5, 6] (fun vo i wr => ∃ k : Nat, k ≤ l.length ∧ i = .int .i64 k ∧ Below w.heap.size w wr ∧ wr.ownsRow w.heap.size 3 1 vo (classS (l.take k) y).length ((classS (l.take k) y).map (Value.int .i64))) (fun _ i _ => l.length - (intOf i).toNat)
  case atStart => exact ⟨0, by omega, rfl, .refl _ _, by simpa [classS] using World.ownsRow_nil _ _ _ _⟩
  case round =>
    obtain ⟨k, hk, rfl, hb, ho⟩ := hrel
    by_cases hlt : k < l.length
    · have q := hix k hlt
      have p := cells_at ha hb hc k hlt
      have hle := HLE.out k hk
      have hB := hb.size
      have HT := Lib.hid (take_nth hlt)
      have HK := Lib.hid (show (l.take k).length = k by simp; omega)
      by_cases he : nth l k = y
      · have he' : (nth l k == y) = true := by simp [he]
        have HE := Lib.hid he
        clear he
        go_wp2_with (at_builtin; refine wpList_push rfl _ _ 22 rfl 3 _ 8 Try.underlying22 info3 rfl w.heap.size _ _ _ rfl ho (.int .i64 (k : Int)) rfl rfl (by omega) (by omega) (by omega) ?_; intro g' c' w1 hown1 hbel1 _ _)
        go_roundw
        case rel =>
          refine ⟨k + 1, by omega, by go_num, hb.trans hbel1, ?_⟩
          rw [HT.out, classS_snoc, if_pos HE.out, HK.out]
          simpa using hown1
        case measure => simp [intOf]; omega
      · have he' : (nth l k == y) = false := by simp [he]
        go_wp2
        go_roundw
        case rel => exact ⟨k + 1, by omega, by go_num, hb, by rw [HT.out, classS_snoc, if_neg he]; exact ho⟩
        case measure => simp [intOf]; omega
    · have hk' : k = l.length := by omega
      subst hk'
      have hwf := HWF.out l.length (Nat.le_refl _)
      go_wp2
      go_ret
      have := Ints.of_own ho hwf
      rw [List.take_length] at this
      exact .mk hb this

theorem info_slice' : (Try.prog.info? 22).map (fun i => (i.zero, i.size, i.bytes)) = some (some (.slice none 0 0), 1, 24) := info_slice

set_option maxRecDepth 100000 in
theorem refClasses_calls {S : Nat → Prop} {w : World} {v : Value} {l : List Int} (h : Ints S w v l) :
    Calls Try.prog 19 #[v] w (Post w (RetLL w.heap.size (classesR l))) := by
  go_enter Try.func19, Try.ntmps19
  go_wp2_with fail
  refine (refCheck_calls h).mono ?_
  rintro _ w1 ⟨_, rfl, hb1, rfl⟩
  by_cases h1 : checkS l = 0
  · have e1 : (checkS l != 0) = false := by simp [h1]
    have H1 := Lib.hid h1
    have hg := checkS_good.1 h1
    have hlen := hg.1
    have hn0 := numS_nonneg l
    have hnl := numS_le l hg.2 l.length (Nat.le_refl _)
    rw [List.take_length] at hnl
    obtain ⟨m, hm⟩ := Int.eq_ofNat_of_zero_le hn0
    have HM := Lib.hid hm
    have hm1 : m ≤ 65536 := by omega
    clear h1 hn0 hnl hm
    go_wp2
    go_loopw [5, 6] (fun vo i wr => ∃ (k : Nat) (vs : List Value), k ≤ m ∧ i = .int .i64 k ∧ Below w.heap.size w wr ∧ OwnList 22 w.heap.size wr vo vs ((classesS l).take k))
      (fun _ i _ => m - (intOf i).toNat)
    case atStart => exact ⟨0, [], by omega, rfl, hb1, OwnList.nil _ _ _⟩
    case round =>
      obtain ⟨k, vs, hk, rfl, hb, ho⟩ := hrel
      have hI := h.ext hb
      have hB := hb.size
      go_wp2_with fail
      refine (refNumber_calls hI hg).mono ?_
      rintro _ w2 ⟨_, rfl, hb2, rfl⟩
      have hbb := ext_trans hb hb2
      have ho2 := ho.ext hb2
      have hB2 := hbb.size
      rw [HM.out]
      by_cases hlt : k < m
      · have hkl : k < (classesS l).length := by rw [length_classesS, HM.out]; omega
        have HT := Lib.hid (take_nthL hkl)
        have HN := Lib.hid (nthL_classesS (l := l) (k := k) (by rw [HM.out]; omega))
        have hlk : ((classesS l).take k).length = k := by rw [List.length_take, length_classesS, HM.out]; omega
        have HLK := Lib.hid hlk
        clear hlk
        go_wp2_with fail
        refine (refClass_calls (hI.ext hb2) hlen (k : Int)).mono ?_
        rintro _ w3 ⟨u, rfl, hb3, hu⟩
        have hu0 := hu
        obtain ⟨au, cu, rfl, _⟩ := hu0
        have ho3 := ho2.ext hb3
        have hrow := ho3.row
        rw [HLK.out] at hrow
        have hB3 := hb3.size
        go_wp2_with (at_builtin; refine wpList_push rfl _ _ 32 rfl 22 _ 24 Try.underlying32 info_slice rfl w.heap.size _ _ _ rfl hrow (.slice au (classS l k).length cu) rfl rfl (by omega) (by omega) (by omega) ?_; intro g' c' w4 hown4 hbel4 hag4 hblk4)
        have hp := ho3.push (l := classS l k) (by rw [HLK.out]; exact hown4) hag4 (fun k hk => by cases hk; exact hblk4) (hu.mono (by
          intro b hb'
          refine ⟨by omega, fun e => ?_⟩
          have := (ho2.row.lt b e).2
          omega))
        go_roundw
        case rel => exact ⟨k + 1, _, by omega, by go_num, (ext_trans hbb hb3).trans hbel4, by rw [HT.out, HN.out]; exact hp⟩
        case measure => simp [intOf]; omega
      · have hk' : k = m := by omega
        subst hk'
        have hL := ho2.lists
        rw [List.take_of_length_le (by rw [length_classesS, HM.out]; omega)] at hL
        have h2 := H1.out
        go_wp2
        go_ret2
        exact .mk hbb (.mk hL (by simp [classesR, h2]))
  · have e1 : (checkS l != 0) = true := by simp [h1]
    go_wp2_with fail
    go_ret2
    exact .mk hb1 (.nil _ _ rfl (by simp [classesR, h1]))

set_option maxRecDepth 100000 in
theorem refCount_calls {S : Nat → Prop} {w : World} {v : Value} {l : List Int} (h : Ints S w v l) :
    Calls Try.prog 21 #[v] w (Post w fun _ r => r = .tuple #[.int .i64 (countR l).1, .int .i64 (countR l).2]) := by
  go_enter Try.func21, Try.ntmps21
  go_wp2_with fail
  refine (refCheck_calls h).mono ?_
  rintro _ w1 ⟨_, rfl, hb1, rfl⟩
  by_cases h1 : checkS l = 0
  · have e1 : (checkS l != 0) = false := by simp [h1]
    have H1 := Lib.hid h1
    have hg := checkS_good.1 h1
    clear h1
    go_wp2_with fail
    refine (refNumber_calls (h.ext hb1) hg).mono ?_
    rintro _ w2 ⟨_, rfl, hb2, rfl⟩
    go_wp2
    go_ret2
    refine .mk (ext_trans hb1 hb2) ?_
    simp only [countR, H1.out, if_true]
    rfl
  · have e1 : (checkS l != 0) = true := by simp [h1]
    go_wp2_with fail
    go_ret2
    refine .mk hb1 ?_
    simp only [countR, h1, if_false]
    rfl
end Go.Proofs.Ytnmbiibchajehaa
