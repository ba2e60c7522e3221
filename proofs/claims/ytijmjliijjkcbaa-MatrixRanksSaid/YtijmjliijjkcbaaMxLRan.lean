/- The walk of MatrixRanks. Printed by ran5law.py. -/
import Derived.Test.YtijmjliijjkcbaaMxLaw2
import Derived.Test.YtijmjliijjkcbaaReg
namespace Go.Proofs.Ytijmjliijjkcbaa
set_option linter.unusedVariables false
open Go.RowKit
attribute [local go_sem ↓] Go.wp_at_zero Go.wp_at_succ

set_option maxRecDepth 100000 in
set_option maxHeartbeats 4000000 in
theorem walkMatrixRanks {Sm : Nat → Prop} {w : World} {vm : Value} {m : Mx} (hm : MatV Sm w vm m) :
    Calls Try.prog 9 #[vm] w (Post w fun _ r => r = .bool true) := by
  obtain ⟨cols, ll⟩ := m
  obtain ⟨rm, rfl, lam⟩ := hm
  obtain ⟨am, nm, rfl, _⟩ := lam.form
  dsimp only at lam ⊢
  have hm : MatV Sm w (.agg #[.int .i64 cols, .slice am ll.length nm]) ⟨cols, ll⟩ := ⟨_, rfl, lam⟩
  clear lam
  have HB := Below.refl w.heap.size w
  obtain ⟨ck, hck⟩ : ∃ ck, ck = checkM ⟨cols, ll⟩ := ⟨_, rfl⟩
  have HC := Lib.hid hck
  clear hck
  go_enter Try.func9, Try.ntmps9
  have ex1 := ext_alloc' (ext_alloc w (.cells #[.int .i64 cols, .slice am ll.length nm] 24)) (.cells #[.int .i64 cols, .slice am ll.length nm] 24)
  have hmx := hm.ext ex1
  have R0 := row_new w [.int .i64 cols, .slice am ll.length nm] 24
  replace R0 := R0.ext (ext_alloc (w.alloc (.cells #[.int .i64 cols, .slice am ll.length nm] 24)) (.cells #[.int .i64 cols, .slice am ll.length nm] 24))
  have KK := Lib.hid (few1 (hm.ext (ext_alloc w (.cells #[.int .i64 cols, .slice am ll.length nm] 24))) (B := w.heap.size + 1) (e := 24) (by simp))
  go_wp2_with fail
  refine KK.out.mono ?_
  rintro _ w1 ⟨_, rfl, hb1, rfl⟩
  clear KK
  have hy1 := ext_trans ex1 hb1
  replace hm := hm.ext hy1
  replace R0 := R0.ext hb1
  replace HB := ext_trans HB hy1
  clear ex1 hmx hy1 hb1
  cases hf : fewM ⟨cols, ll⟩ with
  | false =>
    clear hf
    go_wp2_with fail
    refine (awake_calls _).mono ?_
    rintro _ w2 ⟨_, rfl, hb2, rfl⟩
    go_wp2
    go_ret
    exact .mk (ext_trans HB hb2) rfl
  | true =>
  clear hf
  obtain ⟨R0a, R0b⟩ := R0.two
  have KK := Lib.hid (refCheck_gen hm HC.out.symm)
  go_wp2_with fail
  refine KK.out.mono ?_
  rintro _ w2 ⟨_, rfl, hb2, rfl⟩
  clear KK
  have hy2 := hb2
  replace hm := hm.ext hy2
  replace R0 := R0.ext hy2
  replace HB := ext_trans HB hy2
  clear R0a R0b hy2 hb2
  by_cases hc : ¬ ck = 0
  · have e1 : (ck != 0) = true := by simp [hc]
    clear hc
    go_wp2_with fail
    refine (awake_calls _).mono ?_
    rintro _ w3 ⟨_, rfl, hb3, rfl⟩
    go_wp2
    go_ret
    exact .mk (ext_trans HB hb3) rfl
  have hc := Classical.not_not.1 hc
  subst hc
  have OK := Lib.hid (checkM_zero.1 HC.out.symm)
  have HC0 := Lib.hid HC.out.symm
  have hc0 : 0 ≤ cols := OK.out.c0
  have hc1 : cols ≤ 4096 := OK.out.c1
  obtain ⟨el, hel⟩ : ∃ el, el = rowsE ⟨cols, ll⟩ := ⟨_, rfl⟩
  have HE : Hid (echS ⟨cols, ll⟩ = (⟨cols, el⟩, 0)) := Lib.hid (by rw [echS_ok HC0.out, hel])
  obtain ⟨⟨tc, tl⟩, hT⟩ : ∃ t, t = turned ⟨cols, ll⟩ := ⟨_, rfl⟩
  have HT : Hid (transS ⟨cols, ll⟩ = (⟨tc, tl⟩, 0)) := Lib.hid (by rw [transS_ok HC0.out, hT])
  obtain ⟨fl, hfl⟩ : ∃ fl, fl = rowsE ⟨tc, tl⟩ := ⟨_, rfl⟩
  have HF : Hid (echS ⟨tc, tl⟩ = (⟨tc, fl⟩, 0)) := Lib.hid (by rw [echS_ok (checkM_zero.2 (hT ▸ turned_ok OK.out)), hfl])
  obtain ⟨kl, hkl⟩ : ∃ kl, kl = kerTo (rowsE ⟨cols, ll⟩) cols.toNat := ⟨_, rfl⟩
  have HK : Hid (kerS ⟨cols, ll⟩ = (⟨cols, kl⟩, 0)) := Lib.hid (by rw [kerS_ok HC0.out, hkl])
  obtain ⟨gl, hgl⟩ : ∃ gl, gl = rowsE ⟨cols, kl⟩ := ⟨_, rfl⟩
  have HG : Hid (echS ⟨cols, kl⟩ = (⟨cols, gl⟩, 0)) := Lib.hid (by rw [echS_ok (checkM_zero.2 (by rw [hkl]; exact ker_ok OK.out)), hgl])
  obtain ⟨n, hn⟩ : ∃ n : Int, n = el.length := ⟨_, rfl⟩
  have HN1 : Hid ((el.length : Int) = n) := Lib.hid hn.symm
  have HN2 : Hid ((fl.length : Int) = n) := Lib.hid (by rw [hn, hfl, hel, hT, rank_turned OK.out])
  have HN3 : Hid ((gl.length : Int) = kl.length) := Lib.hid (by rw [hgl, hkl]; exact congrArg Nat.cast (ker_rank OK.out))
  have hrk : n + kl.length = cols := by rw [hn, hel, hkl]; exact rank_ker OK.out
  have hn0 : 0 ≤ n := by omega
  have hkl0 : kl.length ≤ 4096 := by omega
  have er : wrap64 (n + (kl.length : Int)) = cols := by unfold wrap64; omega
  have HKI : Hid (∀ k, k < kl.length → applyS ⟨cols, ll⟩ (nthL kl k) = ([], 0)) := Lib.hid (fun k hk => by
    obtain ⟨c, h1, h2, h3⟩ := mem_kerTo.1 (show nthL kl k ∈ kerTo (rowsE ⟨cols, ll⟩) cols.toNat from hkl ▸ nthL_mem hk)
    rw [applyS_ok HC0.out (OK.out.vecC.2 (h3 ▸ ker_inR OK.out h1 h2)), h3, ker_image OK.out h2])
  clear hel hT hfl hkl hgl hn hrk
  obtain ⟨R0a, R0b⟩ := R0.two
  have KK := Lib.hid (transP_gen hm HT.out)
  go_wp2_with fail
  refine KK.out.mono ?_
  rintro _ w3 ⟨_, rfl, hb3, ta, tn, rfl, ht⟩
  clear KK
  have hy3 := hb3
  replace hm := hm.ext hy3
  replace R0 := R0.ext hy3
  replace HB := ext_trans HB hy3
  clear R0a R0b hy3 hb3
  have ex4 := ext_alloc w3 (.cells #[.int .i64 tc, .slice ta tl.length tn] 24)
  have hmx := hm.ext ex4
  have htx := ht.ext ex4
  obtain ⟨R0a, R0b⟩ := R0.two
  obtain ⟨R0y1a, R0y1b⟩ := (R0.ext (ext_alloc w3 (.cells #[.int .i64 tc, .slice ta tl.length tn] 24))).two
  have R1 := row_new w3 [.int .i64 tc, .slice ta tl.length tn] 24
  have KK := Lib.hid (rank_gen hmx HE.out HN1.out)
  go_wp2_with fail
  refine KK.out.mono ?_
  rintro _ w4 ⟨_, rfl, hb4, rfl⟩
  clear KK
  have hy4 := ext_trans ex4 hb4
  replace hm := hm.ext hy4
  replace ht := ht.ext hy4
  replace R0 := R0.ext hy4
  replace R1 := R1.ext hb4
  replace HB := ext_trans HB hy4
  clear ex4 hmx htx R0a R0b R0y1a R0y1b hy4 hb4
  obtain ⟨R0a, R0b⟩ := R0.two
  obtain ⟨R1a, R1b⟩ := R1.two
  have KK := Lib.hid (rank_gen ht HF.out HN2.out)
  go_wp2_with fail
  refine KK.out.mono ?_
  rintro _ w5 ⟨_, rfl, hb5, rfl⟩
  clear KK
  have hy5 := hb5
  replace hm := hm.ext hy5
  replace ht := ht.ext hy5
  replace R0 := R0.ext hy5
  replace R1 := R1.ext hy5
  replace HB := ext_trans HB hy5
  clear R0a R0b R1a R1b hy5 hb5
  obtain ⟨R0a, R0b⟩ := R0.two
  obtain ⟨R1a, R1b⟩ := R1.two
  have KK := Lib.hid (ker_gen hm HK.out)
  go_wp2_with fail
  refine KK.out.mono ?_
  rintro _ w6 ⟨_, rfl, hb6, ka, kn, rfl, hk⟩
  clear KK
  have hy6 := hb6
  replace hm := hm.ext hy6
  replace ht := ht.ext hy6
  replace R0 := R0.ext hy6
  replace R1 := R1.ext hy6
  replace HB := ext_trans HB hy6
  clear R0a R0b R1a R1b hy6 hb6
  have ex7 := ext_alloc w6 (.cells #[.int .i64 cols, .slice ka kl.length kn] 24)
  have hmx := hm.ext ex7
  have htx := ht.ext ex7
  have hkx := hk.ext ex7
  obtain ⟨R0a, R0b⟩ := R0.two
  obtain ⟨R0y1a, R0y1b⟩ := (R0.ext (ext_alloc w6 (.cells #[.int .i64 cols, .slice ka kl.length kn] 24))).two
  obtain ⟨R1a, R1b⟩ := R1.two
  obtain ⟨R1y1a, R1y1b⟩ := (R1.ext (ext_alloc w6 (.cells #[.int .i64 cols, .slice ka kl.length kn] 24))).two
  have R2 := row_new w6 [.int .i64 cols, .slice ka kl.length kn] 24
  have KK := Lib.hid (rank_gen hkx HG.out HN3.out)
  go_wp2_with fail
  refine KK.out.mono ?_
  rintro _ w7 ⟨_, rfl, hb7, rfl⟩
  clear KK
  have hy7 := ext_trans ex7 hb7
  replace hm := hm.ext hy7
  replace ht := ht.ext hy7
  replace hk := hk.ext hy7
  replace R0 := R0.ext hy7
  replace R1 := R1.ext hy7
  replace R2 := R2.ext hb7
  replace HB := ext_trans HB hy7
  clear ex7 hmx htx hkx R0a R0b R0y1a R0y1b R1a R1b R1y1a R1y1b hy7 hb7
  obtain ⟨rk, hrk, hkl⟩ := hk
  have hrv : rk = .slice ka kl.length kn := by
    have := congrArg (fun v => match v with | .agg xs => xs[1]? | _ => none) hrk
    simpa using this.symm
  subst hrv
  clear hrk
  dsimp only at hkl
  obtain ⟨i0, hi, hz0, hz1, hz2⟩ := info_parts info_ints
  obtain ⟨_, _, hfo, had, _⟩ := hkl.form
  injection hfo with e1 e2 e3
  subst e1 e3
  have HQK := Lib.hid (idx_one Try.underlying22 hi hz1 had)
  clear hi hz0 hz1 hz2 had
  have HKL := Lib.hid hkl
  clear hkl
  obtain ⟨R0a, R0b⟩ := R0.two
  obtain ⟨R2a, R2b⟩ := R2.two
  have hbz : Below w7.heap.size w7 w7 := .refl _ _
  go_wp2
  clear er
  go_loopw [14, 15, 16, 87] (fun _ _ _ i wr => ∃ k : Nat, k ≤ kl.length ∧ i = .int .i64 k ∧ Below w7.heap.size w7 wr) (fun _ _ _ i _ => kl.length - (intOf i).toNat)
  case atStart => exact ⟨0, Nat.zero_le _, rfl, hbz⟩
  case round =>
    obtain ⟨k, hk, rfl, hbr⟩ := hrel
    by_cases hlt : k < kl.length
    · have q := HQK.out k hlt
      obtain ⟨u, cu, iu⟩ := HKL.out.at hbr hlt
      have HA := Lib.hid (HKI.out k hlt)
      obtain ⟨x, hx⟩ : ∃ x, x = nthL kl k := ⟨_, rfl⟩
      rw [← hx] at iu HA
      obtain ⟨ax, nx, rfl, _⟩ := iu.form
      have R0r := R0.ext hbr
      obtain ⟨R0a, R0b⟩ := R0r.two
      have KK := Lib.hid (applyP_gen (hm.ext hbr) iu HA.out)
      clear hx
      go_wp2_with fail
      refine KK.out.mono ?_
      rintro _ wn ⟨_, rfl, hbn, xa, xn, rfl, hx'⟩
      have hbf := ext_trans hbr hbn
      clear hx' KK
      go_wp2
      go_roundw
      case rel => exact ⟨k + 1, by omega, by go_num, hbf⟩
      case measure => simp [intOf]; omega
    · have HB2 := ext_trans HB hbr
      go_wp2_with fail
      refine (awake_calls _).mono ?_
      rintro _ we ⟨_, rfl, hbe, rfl⟩
      go_wp2
      go_ret
      exact .mk (ext_trans HB2 hbe) rfl
end Go.Proofs.Ytijmjliijjkcbaa
