/- The program's size, Check. -/
import Derived.Test.YtifcgcdbebgahaaClM
namespace Go.Proofs.Ytifcgcdbebgahaa
set_option linter.unusedVariables false
open Go.RowKit
attribute [local go_sem ↓] Go.wp_at_zero Go.wp_at_succ

set_option maxRecDepth 100000 in
theorem size_calls {S : Nat → Prop} {w : World} {v : Value} {m : Mx} (h : MatV S w v m) :
    Calls Try.prog 66 #[v] w (Post w fun _ r => r = .int .i64 (sizesS m)) := by
  obtain ⟨rv, rfl, hl⟩ := h
  obtain ⟨cols, ll⟩ := m
  obtain ⟨a, cap, rfl, ad, l1, lm⟩ := hl.form
  dsimp only at hl l1 ad ⊢
  obtain ⟨E, hE⟩ : ∃ E, E = sizesS ⟨cols, ll⟩ := ⟨_, rfl⟩
  rw [← hE]
  unfold sizesS at hE
  dsimp only at hE
  by_cases c0 : cols < 0
  · have R : Hid (E = 2) := Lib.hid (by rw [hE, if_pos (.inl c0)])
    clear hE
    go_enter Try.func66, Try.ntmps66
    go_wp2
    go_ret
    exact .mk (ext_alloc w _) (int_eq R.out.symm)
  by_cases c1 : 4096 < cols
  · have R : Hid (E = 2) := Lib.hid (by rw [hE, if_pos (.inr c1)])
    clear hE
    go_enter Try.func66, Try.ntmps66
    go_wp2
    go_ret
    exact .mk (ext_alloc w _) (int_eq R.out.symm)
  rw [if_neg (by omega)] at hE
  by_cases c2 : 32768 < ll.length
  · have R : Hid (E = 5) := Lib.hid (by rw [hE, if_pos c2])
    clear hE
    go_enter Try.func66, Try.ntmps66
    go_wp2
    go_ret
    exact .mk (ext_alloc w _) (int_eq R.out.symm)
  · have R : Hid (E = 0) := Lib.hid (by rw [hE, if_neg c2])
    clear hE
    go_enter Try.func66, Try.ntmps66
    go_wp2
    go_ret
    exact .mk (ext_alloc w _) (int_eq R.out.symm)

set_option maxRecDepth 100000 in
set_option maxHeartbeats 2000000 in
theorem check_calls {S : Nat → Prop} {w : World} {v : Value} {m : Mx} (h : MatV S w v m) :
    Calls Try.prog 35 #[v] w (Post w fun _ r => r = .int .i64 (checkC m)) := by
  obtain ⟨rv, rfl, hl⟩ := h
  obtain ⟨cols, ll⟩ := m
  obtain ⟨a, cap, rfl, ad, l1, lm⟩ := hl.form
  dsimp only at hl l1 ad ⊢
  unfold maxLen at lm
  obtain ⟨i, hi, hz1, hz2, hz3⟩ := info_parts info_ints
  have HQ := Lib.hid (idx_one Try.underlying22 hi hz2 ad)
  have ex := ext_alloc w (.cells #[.int .i64 cols, .slice a ll.length cap] 24)
  have r0 := row_new w [.int .i64 cols, .slice a ll.length cap] 24
  have KS := Lib.hid (size_calls (v := .agg #[.int .i64 cols, .slice a ll.length cap]) (m := ⟨cols, ll⟩) ⟨_, rfl, hl.ext ex⟩)
  obtain ⟨E, hE⟩ : ∃ E, E = checkC ⟨cols, ll⟩ := ⟨_, rfl⟩
  rw [← hE]
  unfold checkC at hE
  dsimp only at hE
  obtain ⟨sz, hsz⟩ : ∃ sz, sz = sizesS ⟨cols, ll⟩ := ⟨_, rfl⟩
  rw [← hsz] at hE KS
  have HSZ := Lib.hid hsz
  have HE := Lib.hid hE
  clear hi hz1 hz2 hz3 hE hsz
  go_enter Try.func35, Try.ntmps35
  go_wp2_with fail
  refine KS.out.mono ?_
  rintro _ w1 ⟨_, rfl, hb1, rfl⟩
  have hx1 := ext_trans ex hb1
  have R0 := r0.ext hb1
  clear KS r0 ex hb1
  by_cases h0 : ¬ sz = 0
  · have e1 : (sz != 0) = true := by simp [h0]
    have R : Hid (E = sz) := Lib.hid (by rw [HE.out, if_pos h0])
    clear h0
    go_wp2
    go_ret
    exact .mk hx1 (int_eq R.out.symm)
  have h0 := Classical.not_not.1 h0
  have e1 : (sz != 0) = false := by simp [h0]
  have HE : Hid (E = firstE (clauseE cols) ll 0) := Lib.hid (by rw [HE.out, if_neg (by simp [h0])])
  have hs := sizesS_zero.1 (HSZ.out.symm.trans h0)
  dsimp only at hs
  have hn : 0 ≤ cols ∧ cols ≤ 100000 := by omega
  have HN := Lib.hid hn
  clear h0 hs hn
  obtain ⟨q0, q1⟩ := R0.two
  go_wp2
  go_loopw [15] (fun i wr => ∃ k : Nat, k ≤ ll.length ∧ i = .int .i64 k ∧ Below w.heap.size w wr ∧ Row wr w.heap.size 24 [.int .i64 cols, .slice a ll.length cap] ∧ Hid (E = firstE (clauseE cols) ll k)) (fun i _ => ll.length - (intOf i).toNat)
  case atStart => exact ⟨0, Nat.zero_le _, rfl, hx1, R0, HE⟩
  case round =>
    obtain ⟨k, hk, rfl, hb, hr, hF⟩ := hrel
    obtain ⟨q0, q1⟩ := hr.two
    by_cases hlt : k < ll.length
    · have q := HQ.out k hlt
      obtain ⟨u, cu, iu⟩ := hl.at hb hlt
      have HV := Lib.hid ((clause_quiet iu HN.out).mono fun _ _ h => h.take)
      obtain ⟨ec, hec⟩ : ∃ ec, ec = clauseE cols (nthL ll k) := ⟨_, rfl⟩
      rw [← hec] at HV
      have HEC := Lib.hid hec.symm
      clear hec
      go_wp2_with fail
      refine HV.out.mono ?_
      rintro _ w2 ⟨_, rfl, hq2, rfl⟩
      have hb2 := ext_trans hb hq2.ext
      have hr2 := hr.ext hq2.ext
      clear HV cu iu q0 q1 hb hr
      obtain ⟨q0, q1⟩ := hr2.two
      by_cases h1 : ec = 0
      · have e1 : (ec != 0) = false := by simp [h1]
        have HR := Lib.hid (hF.out.trans (firstE_next hlt (HEC.out.trans h1)))
        clear h1
        go_wp2
        go_roundw
        case rel => exact ⟨k + 1, by omega, by go_num, hb2, hr2, HR⟩
        case measure => simp [intOf]; omega
      · have e1 : (ec != 0) = true := by simp [h1]
        have HR := Lib.hid (hF.out.trans (firstE_err hlt HEC.out h1))
        clear h1
        go_wp2
        go_ret
        exact .mk hb2 (int_eq HR.out.symm)
    · have HR := Lib.hid (hF.out.trans (firstE_end (by omega)))
      go_wp2
      go_ret
      exact .mk hb (int_eq HR.out.symm)
end Go.Proofs.Ytifcgcdbebgahaa
