/- The walk of MatrixSpans. Printed by spa5law.py. -/
import Derived.Test.YtijmjliijjkcbaaMxClone
import Derived.Test.YtijmjliijjkcbaaReg
namespace Go.Proofs.Ytijmjliijjkcbaa
set_option linter.unusedVariables false
open Go.RowKit
attribute [local go_sem ↓] Go.wp_at_zero Go.wp_at_succ

set_option maxRecDepth 100000 in
set_option maxHeartbeats 8000000 in
theorem walkMatrixSpans {Sm Sy : Nat → Prop} {w : World} {vm vy : Value} {m : Mx} {y : List Int} (hm : MatV Sm w vm m) (hy : Ints Sy w vy y) :
    Calls Try.prog 7 #[vm, vy] w (Post w fun _ r => r = .bool true) := by
  obtain ⟨cols, ll⟩ := m
  obtain ⟨rm, rfl, lam⟩ := hm
  obtain ⟨am, nm, rfl, _⟩ := lam.form
  dsimp only at lam ⊢
  have hm : MatV Sm w (.agg #[.int .i64 cols, .slice am ll.length nm]) ⟨cols, ll⟩ := ⟨_, rfl, lam⟩
  clear lam
  obtain ⟨ay, ny, rfl, _⟩ := hy.form
  have HB := Below.refl w.heap.size w
  obtain ⟨ck, hck⟩ : ∃ ck, ck = checkM ⟨cols, ll⟩ := ⟨_, rfl⟩
  have HC := Lib.hid hck
  obtain ⟨cy, hcy⟩ : ∃ cy, cy = vecE (ll.length : Int) y := ⟨_, rfl⟩
  have HCY := Lib.hid hcy
  clear hck hcy
  go_enter Try.func7, Try.ntmps7
  have ex1 := ext_alloc' (ext_alloc w (.cells #[.int .i64 cols, .slice am ll.length nm] 24)) (.cells #[.int .i64 cols, .slice am ll.length nm] 24)
  have hmx := hm.ext ex1
  have hyx := hy.ext ex1
  have R0 := row_new w [.int .i64 cols, .slice am ll.length nm] 24
  replace R0 := R0.ext (ext_alloc (w.alloc (.cells #[.int .i64 cols, .slice am ll.length nm] 24)) (.cells #[.int .i64 cols, .slice am ll.length nm] 24))
  have KK := Lib.hid (few1 (hm.ext (ext_alloc w (.cells #[.int .i64 cols, .slice am ll.length nm] 24))) (B := w.heap.size + 1) (e := 24) (by simp))
  go_wp2_with fail
  refine KK.out.mono ?_
  rintro _ w1 ⟨_, rfl, hb1, rfl⟩
  clear KK
  have hy1 := ext_trans ex1 hb1
  replace hm := hm.ext hy1
  replace hy := hy.ext hy1
  replace R0 := R0.ext hb1
  replace HB := ext_trans HB hy1
  clear ex1 hmx hyx hy1 hb1
  cases hf : fewM ⟨cols, ll⟩ with
  | false =>
    clear hf
    go_wp2_with fail
    refine (awake_calls _).mono ?_
    rintro _ w2 ⟨_, rfl, hb2, rfl⟩
    go_wp2
    go_ret
    exact .mk (ext_trans HB hb2) rfl
  | true =>
  have HF := Lib.hid hf
  clear hf
  obtain ⟨R0a, R0b⟩ := R0.two
  have KK := Lib.hid (refCheck_gen hm HC.out.symm)
  go_wp2_with fail
  refine KK.out.mono ?_
  rintro _ w2 ⟨_, rfl, hb2, rfl⟩
  clear KK
  have hy2 := hb2
  replace hm := hm.ext hy2
  replace hy := hy.ext hy2
  replace R0 := R0.ext hy2
  replace HB := ext_trans HB hy2
  clear R0a R0b hy2 hb2
  by_cases hc : ¬ ck = 0
  · have e1 : (ck != 0) = true := by simp [hc]
    clear hc
    go_wp2_with fail
    refine (awake_calls _).mono ?_
    rintro _ w3 ⟨_, rfl, hb3, rfl⟩
    go_wp2
    go_ret
    exact .mk (ext_trans HB hb3) rfl
  have hc := Classical.not_not.1 hc
  subst hc
  have OK := Lib.hid (checkM_zero.1 HC.out.symm)
  have HC0 := Lib.hid HC.out.symm
  have hc0 : 0 ≤ cols := OK.out.c0
  have hc1 : cols ≤ 14 := (fewM_cols HF.out OK.out).1
  have hl1 : ll.length ≤ 14 := (fewM_cols HF.out OK.out).2
  by_cases hly : 40 < y.length
  · have d1 : decide (40 < y.length) = true := decide_eq_true hly
    go_wp2_with fail
    refine (awake_calls _).mono ?_
    rintro _ w3 ⟨_, rfl, hb3, rfl⟩
    go_wp2
    go_ret
    exact .mk (ext_trans HB hb3) rfl
  have d1 : decide (40 < y.length) = false := decide_eq_false hly
  obtain ⟨R0a, R0b⟩ := R0.two
  have KK := Lib.hid (refVector_gen hy HCY.out.symm)
  go_wp2_with fail
  refine KK.out.mono ?_
  rintro _ w3 ⟨_, rfl, hb3, rfl⟩
  clear KK
  have hy3 := hb3
  replace hm := hm.ext hy3
  replace hy := hy.ext hy3
  replace R0 := R0.ext hy3
  replace HB := ext_trans HB hy3
  clear R0a R0b hy3 hb3
  by_cases hc : ¬ cy = 0
  · have e1 : (cy != 0) = true := by simp [hc]
    clear hc
    go_wp2_with fail
    refine (awake_calls _).mono ?_
    rintro _ w4 ⟨_, rfl, hb4, rfl⟩
    go_wp2
    go_ret
    exact .mk (ext_trans HB hb4) rfl
  have hc := Classical.not_not.1 hc
  subst hc
  have IY := Lib.hid (vecE_inR.1 HCY.out.symm)
  obtain ⟨el, hel⟩ : ∃ el, el = rowsE ⟨cols, ll⟩ := ⟨_, rfl⟩
  have HEL := Lib.hid hel
  have HE : Hid (echS ⟨cols, ll⟩ = (⟨cols, el⟩, 0)) := Lib.hid (by rw [echS_ok HC0.out, hel])
  have HE2 : Hid (echS ⟨cols, el⟩ = (⟨cols, el⟩, 0)) := Lib.hid (by
    rw [echS_ok (checkM_zero.2 (by rw [hel]; exact rowsE_ok OK.out)), hel]
    have := rowsE_again OK.out
    dsimp only at this
    rw [this])
  have HM3 : Hid (echS ⟨cols, ll ++ [sumRows ll y]⟩ = (⟨cols, el⟩, 0)) := Lib.hid (by
    have h1 := more_ok OK.out IY.out (by dsimp only; omega)
    have h2 := rowsE_more OK.out IY.out (by dsimp only; omega)
    dsimp only at h1 h2
    rw [echS_ok (checkM_zero.2 h1), h2, hel])
  have HER : Hid (∀ r ∈ el, InR cols.toNat r) := Lib.hid (by rw [hel]; exact rowsE_inR OK.out)
  have HEN : Hid (∀ r ∈ el, r ≠ []) := Lib.hid (by rw [hel]; exact (rowsE_rref OK.out).ne)
  have HLF : Hid (∀ r ∈ ll, leftTo el r el.length = []) := Lib.hid (fun r hr => by rw [hel]; exact leftTo_all OK.out hr)
  have hell : el.length ≤ 4096 := by rw [hel]; exact OK.out.kok.len
  clear hel
  obtain ⟨R0a, R0b⟩ := R0.two
  have KK := Lib.hid (ech_gen hm HE.out)
  go_wp2_with fail
  refine KK.out.mono ?_
  rintro _ w4 ⟨_, rfl, hb4, ea, eu, rfl, h1⟩
  clear KK
  have hy4 := hb4
  replace hm := hm.ext hy4
  replace hy := hy.ext hy4
  replace R0 := R0.ext hy4
  replace HB := ext_trans HB hy4
  clear R0a R0b hy4 hb4
  have ex5 := ext_alloc w4 (.cells #[.int .i64 cols, .slice ea el.length eu] 24)
  have hmx := hm.ext ex5
  have hyx := hy.ext ex5
  have h1x := h1.ext ex5
  obtain ⟨R0a, R0b⟩ := R0.two
  obtain ⟨R0y1a, R0y1b⟩ := (R0.ext (ext_alloc w4 (.cells #[.int .i64 cols, .slice ea el.length eu] 24))).two
  have R1 := row_new w4 [.int .i64 cols, .slice ea el.length eu] 24
  have KK := Lib.hid (ech_gen h1x HE2.out)
  go_wp2_with fail
  refine KK.out.mono ?_
  rintro _ w5 ⟨_, rfl, hb5, fa, fu, rfl, h2⟩
  clear KK
  have hy5 := ext_trans ex5 hb5
  replace hm := hm.ext hy5
  replace hy := hy.ext hy5
  replace h1 := h1.ext hy5
  replace R0 := R0.ext hy5
  replace R1 := R1.ext hb5
  replace HB := ext_trans HB hy5
  clear ex5 hmx hyx h1x R0a R0b R0y1a R0y1b hy5 hb5
  go_upto_region 5 with fail
  obtain ⟨w6, hw6⟩ : ∃ w6 : World, w6 = (w5.alloc (.cells #[.int .i64 cols, .slice fa el.length fu] 24)) := ⟨_, rfl⟩
  rw [← hw6]
  have hy6 : Below w5.heap.size w5 w6 := by rw [hw6]; exact ext_alloc w5 (.cells #[.int .i64 cols, .slice fa el.length fu] 24)
  have R2 := row_new w5 [.int .i64 cols, .slice fa el.length fu] 24
  rw [← hw6] at R2
  try simp only [World.size_alloc] at R2
  replace hm := hm.ext hy6
  replace hy := hy.ext hy6
  replace h1 := h1.ext hy6
  replace h2 := h2.ext hy6
  replace R0 := R0.ext hy6
  replace R1 := R1.ext hy6
  replace HB := ext_trans HB hy6
  clear hw6 hy6
  obtain ⟨rk, hrk, hll⟩ := hm
  have hrv : rk = .slice am ll.length nm := by
    have := congrArg (fun v => match v with | .agg xs => xs[1]? | _ => none) hrk
    simpa using this.symm
  subst hrv
  clear hrk
  dsimp only at hll
  have HL := Lib.hid hll
  have hm : MatV Sm w6 (.agg #[.int .i64 cols, .slice am ll.length nm]) ⟨cols, ll⟩ := ⟨_, rfl, hll⟩
  clear hll
  have KEEP : Hid (∀ W', Below w6.heap.size w6 W' → ((fun w' : World => w'.cell? ⟨w.heap.size, 0, none⟩ = some (.int .i64 cols) ∧ w'.cell? ⟨w.heap.size, 1, none⟩ = some (.slice am ll.length nm)) W')) := Lib.hid (fun W' hW' => (R0.ext hW').two)
  have R0lt := R0.lt
  have B1 : Hid ((ll.length + 1) * 24 ≤ 140737488355328) := Lib.hid (by omega)
  go_cut [9] (fun s9 wz => ∃ (G : Nat) (a6 : Option Addr) (c6 : Nat), s9 = .pointer (some ⟨G, 0, none⟩) ∧ Below w6.heap.size w6 wz ∧ Row wz G 24 [.int .i64 cols, .slice a6 (ll.length + 1) c6] ∧ Lists TT wz (.slice a6 (ll.length + 1) c6) (ll ++ [sumRows ll y]))
  case first =>
    go_wp2_with fail
    refine region_E (fun w' : World => w'.cell? ⟨w.heap.size, 0, none⟩ = some (.int .i64 cols) ∧ w'.cell? ⟨w.heap.size, 1, none⟩ = some (.slice am ll.length nm)) (fun i => i == 13) (by kernel_rfl) ?_ (fun hHeld => ?_)
    · exact KEEP.out _ (drewN_below _ _ 1)
    refine anyE_take 0 (v := ?_) rfl (by kernel_rfl) (fun _ _ _ h => h) (by rfl) ?hy0q6 hHeld ?rest0q6
    case hy0q6 => (intro w hSw; (try dsimp only at hSw); go_simp; try with_reducible rfl)
    try simp only [Act.put, List.setIfInBounds_toArray, List.set_cons_zero, List.set_cons_succ]
    refine anyE_take 1 (v := ?_) rfl (by kernel_rfl) (fun _ _ _ h => h) (by rfl) ?hy1q7 hHeld ?rest1q7
    case hy1q7 => (intro w hSw; (try dsimp only at hSw); go_simp; try with_reducible rfl)
    try simp only [Act.put, List.setIfInBounds_toArray, List.set_cons_zero, List.set_cons_succ]
    refine anyE_take 2 (v := ?_) rfl (by kernel_rfl) (fun _ _ _ h => h) (by rfl) ?hy2q8 hHeld ?rest2q8
    case hy2q8 => (intro w hSw; (try dsimp only at hSw); go_simp; try with_reducible rfl)
    try simp only [Act.put, List.setIfInBounds_toArray, List.set_cons_zero, List.set_cons_succ]
    refine anyE_take 3 (v := ?_) rfl (by kernel_rfl) (fun _ _ _ h => h) (by rfl) ?hy3q9 hHeld ?rest3q9
    case hy3q9 => (intro w hSw; (try dsimp only at hSw); go_simp; try with_reducible rfl)
    try simp only [Act.put, List.setIfInBounds_toArray, List.set_cons_zero, List.set_cons_succ]
    refine anyE_take 5 (v := ?_) rfl (by kernel_rfl) (fun _ _ _ h => h) (by rfl) ?hy5q10 hHeld ?rest5q10
    case hy5q10 => (intro w hSw; (try dsimp only at hSw); go_simp; try with_reducible rfl)
    try simp only [Act.put, List.setIfInBounds_toArray, List.set_cons_zero, List.set_cons_succ]
    refine anyE_take 6 (v := ?_) rfl (by kernel_rfl) (fun _ _ _ h => h) (by rfl) ?hy6q11 hHeld ?rest6q11
    case hy6q11 => (intro w hSw; (try dsimp only at hSw); go_simp; try with_reducible rfl)
    try simp only [Act.put, List.setIfInBounds_toArray, List.set_cons_zero, List.set_cons_succ]
    refine anyE_take 7 (v := ?_) rfl (by kernel_rfl) (fun _ _ _ h => h) (by rfl) ?hy7q12 hHeld ?rest7q12
    case hy7q12 => (intro w hSw; (try dsimp only at hSw); go_simp; try with_reducible rfl)
    try simp only [Act.put, List.setIfInBounds_toArray, List.set_cons_zero, List.set_cons_succ]
    refine anyE_two 4 12 rfl rfl (by kernel_rfl) (fun K hK => ?_) (fun K hK => ?_)
    ·
      obtain ⟨BS, hBS⟩ : ∃ BS, BS = w6.drew.heap.size := ⟨_, rfl⟩
      have hBS1 : BS ≤ w6.drew.heap.size := by rw [hBS]; exact Nat.le_refl _
      have hBS2 : w6.drew.heap.size ≤ BS := by rw [hBS]; exact Nat.le_refl _
      have HCL := Lib.hid (cloneL_calls (w := w6.drew) (HL.out.block.ext (drewN_below _ _ 1)) (by omega))
      rw [← hBS] at HCL
      clear hBS; go_simp; go_at_call 34; refine HCL.out.mono ?_; rintro _ wA ⟨vA, rfl, hbA, vsA, hoA, hrA⟩; have hkA : Below w6.heap.size w6 wA := ext_trans (drewN_below _ _ 1) hbA; have hzA := hbA.size; have hKs : w6.heap.size ≤ w6.drew.heap.size := Below.size (B := w6.heap.size) (w := w6) (drewN_below _ _ 1)
      have HOWN := Lib.hid (fun (k : Nat) (hk : vA.ownBlock = some k) => hoA.lt k hk)
      refine hK.out _ _ (fun _ => KEEP.out _ (hkA)) (fun hHeld => ?_); replace hHeld := hHeld rfl
      clear hK K
      try simp only [Act.put, List.setIfInBounds_toArray, List.set_cons_zero, List.set_cons_succ]
      refine anyE_two 8 12 rfl rfl (by kernel_rfl) (fun K hK => ?_) (fun K hK => ?_)
      ·
        go_simp; go_at_call 35; refine (refSum_calls (c := cols) (HL.out.ext hkA) (hy.ext hkA) OK.out.rok IY.out.2).mono ?_; rintro _ wB ⟨vB, rfl, hbB, hIB⟩; replace hIB := hIB.block 0; obtain ⟨aB, cB, rfl, _⟩ := hIB.form; have hkB : Below w6.heap.size w6 wB := ext_trans hkA hbB; have hzB := hbB.size
        replace hoA := owns_ext hoA hbB
        replace hrA := RefsV.ext hrA hbB
        refine hK.out _ _ (fun _ => KEEP.out _ (hkB)) (fun hHeld => ?_); replace hHeld := hHeld rfl
        clear hK K
        try simp only [Act.put, List.setIfInBounds_toArray, List.set_cons_zero, List.set_cons_succ]
        refine anyE_two 9 12 rfl rfl (by kernel_rfl) (fun K hK => ?_) (fun K hK => ?_)
        ·
          go_simp
          refine hK.out _ _ (fun _ => KEEP.out _ (ext_alloc' hkB _)) (fun hHeld => ?_); replace hHeld := hHeld rfl
          clear hK K
          try simp only [Act.put, List.setIfInBounds_toArray, List.set_cons_zero, List.set_cons_succ]
          have RD := row_new wB [.slice aB (sumRows ll y).length cB] 38
          obtain ⟨wD, hwD⟩ : ∃ wD, wD = wB.alloc (.cells #[.slice aB (sumRows ll y).length cB] 38) := ⟨_, rfl⟩
          obtain ⟨D, hD⟩ : ∃ D, D = wB.heap.size := ⟨_, rfl⟩
          have hcD : Below wB.heap.size wB wD := by rw [hwD]; exact ext_alloc _ _
          have hkwD : Below w6.heap.size w6 wD := ext_trans hkB hcD
          replace RD : Row wD D 38 [.slice aB (sumRows ll y).length cB] := by rw [hwD, hD]; exact RD
          have hD1 : wB.heap.size ≤ D := by rw [hD]; exact Nat.le_refl _
          have hD2 : D ≤ wB.heap.size := by rw [hD]; exact Nat.le_refl _
          have hD3 := RD.lt
          have hzwD : wB.heap.size ≤ wD.heap.size := hcD.size
          rw [← hwD, ← hD]
          clear hwD hD
          replace hoA := owns_ext hoA hcD
          replace hrA := RefsV.ext hrA hcD
          replace hIB := hIB.ext hcD
          refine anyE_two 10 12 rfl rfl (by kernel_rfl) (fun K hK => ?_) (fun K hK => ?_)
          ·
            have HOA := Lib.hid hoA
            have HRA := Lib.hid hrA
            have HIB := Lib.hid hIB
            (refine step_appendAll (by rfl) (.tmp 54) (.tmp 59) 22 (by rfl) 38 _ 24 Try.underlying22 info_ints rfl BS vA ll.length vsA (by rfl) HOA.out TT (some ⟨D, 0, none⟩) 1 1 [.slice aB (sumRows ll y).length cB] (by rfl) (.inr ⟨_, _, rfl, RD.lt, trivial⟩) rfl (fun j hj => by (obtain rfl : j = 0 := by omega); rw [adr_add, Nat.zero_add]; exact RD.cell rfl) (fun u hu => by rw [List.mem_singleton.1 hu]; rfl) B1.out (by omega) (by omega) ?_; intro v6 wC hown6 hbel6 hag6 hat6; have hkC : Below w6.heap.size w6 wC := hkwD.trans (hbel6.mono (by omega)); have hzC := hkC.size; obtain ⟨g6, cp6, rfl⟩ := owns_pos hown6 (by omega))
            have HAG := Lib.hid hag6; have HAT := Lib.hid hat6
            refine hK.out _ _ (fun _ => KEEP.out _ (hkC)) (fun hHeld => ?_); replace hHeld := hHeld rfl
            clear hK K
            try simp only [Act.put, List.setIfInBounds_toArray, List.set_cons_zero, List.set_cons_succ]
            refine anyE_take 11 (v := ?_) rfl (by kernel_rfl) (fun _ _ _ h => h) (by rfl) ?hy11q1 hHeld ?rest11q1
            case hy11q1 => (intro w hSw; (try dsimp only at hSw); go_simp; try with_reducible rfl)
            try simp only [Act.put, List.setIfInBounds_toArray, List.set_cons_zero, List.set_cons_succ]
            refine anyE_one 12 rfl (by kernel_rfl) (fun K hK => ?_)
            go_simp
            refine hK.out _ _ (fun _ => KEEP.out _ (ext_alloc' hkC _)) (fun hHeld => ?_); replace hHeld := hHeld rfl
            clear hK K
            try simp only [Act.put, List.setIfInBounds_toArray, List.set_cons_zero, List.set_cons_succ]
            refine anyE_one 13 rfl (by kernel_rfl) (fun K hK => ?_)
            go_simp
            refine hK.out _ _ (fun h => by simp at h) (fun hHeld => ?_)
            clear hK K
            try simp only [Act.put, List.setIfInBounds_toArray, List.set_cons_zero, List.set_cons_succ]
            refine anyE_done (by kernel_rfl) ?_ _
            go_wp2_with fail
            go_meet
            exact ⟨_, _, _, rfl, ext_alloc' hkC _, row_new _ _ _, rows_more (T := TT) HOA.out HRA.out (fun b hb => ⟨fun e => by have := HOWN.out b e; have := hb.1.2; omega, trivial⟩) (HIB.out.mono fun b hb => ⟨fun e => by have := HOWN.out b e; have := hb.1; omega, trivial⟩) hown6 HAG.out (.of_ext (ext_alloc _ _)) (fun _ _ => trivial)⟩
          ·
            go_simp
            refine hK.out _ _ (fun _ => KEEP.out _ (ext_alloc' hkwD _)) (fun hHeld => ?_); replace hHeld := hHeld rfl
            clear hK K
            try simp only [Act.put, List.setIfInBounds_toArray, List.set_cons_zero, List.set_cons_succ]
            have RG := row_new wD [.int .i64 0, .slice none 0 0] 24
            obtain ⟨wG, hwG⟩ : ∃ wG, wG = wD.alloc (.cells #[.int .i64 0, .slice none 0 0] 24) := ⟨_, rfl⟩
            obtain ⟨G, hG⟩ : ∃ G, G = wD.heap.size := ⟨_, rfl⟩
            have hcG : Below wD.heap.size wD wG := by rw [hwG]; exact ext_alloc _ _
            have hkwG : Below w6.heap.size w6 wG := ext_trans hkwD hcG
            replace RG : Row wG G 24 [.int .i64 0, .slice none 0 0] := by rw [hwG, hG]; exact RG
            have hG1 : wD.heap.size ≤ G := by rw [hG]; exact Nat.le_refl _
            have hG2 : G ≤ wD.heap.size := by rw [hG]; exact Nat.le_refl _
            have hG3 := RG.lt
            have hzwG : wD.heap.size ≤ wG.heap.size := hcG.size
            rw [← hwG, ← hG]
            clear hwG hG
            replace hoA := owns_ext hoA hcG
            replace hrA := RefsV.ext hrA hcG
            replace hIB := hIB.ext hcG
            replace RD := RD.ext hcG
            refine anyE_one 10 rfl (by kernel_rfl) (fun K hK => ?_)
            have HOA := Lib.hid hoA
            have HRA := Lib.hid hrA
            have HIB := Lib.hid hIB
            (refine step_appendAll (by rfl) (.tmp 54) (.tmp 59) 22 (by rfl) 38 _ 24 Try.underlying22 info_ints rfl BS vA ll.length vsA (by rfl) HOA.out TT (some ⟨D, 0, none⟩) 1 1 [.slice aB (sumRows ll y).length cB] (by rfl) (.inr ⟨_, _, rfl, RD.lt, trivial⟩) rfl (fun j hj => by (obtain rfl : j = 0 := by omega); rw [adr_add, Nat.zero_add]; exact RD.cell rfl) (fun u hu => by rw [List.mem_singleton.1 hu]; rfl) B1.out (by omega) (by omega) ?_; intro v6 wC hown6 hbel6 hag6 hat6; have hkC : Below w6.heap.size w6 wC := hkwG.trans (hbel6.mono (by omega)); have hzC := hkC.size; obtain ⟨g6, cp6, rfl⟩ := owns_pos hown6 (by omega))
            have HAG := Lib.hid hag6; have HAT := Lib.hid hat6
            replace RG := RG.agree (S := fun b => b = G) (HAG.out _ fun k hk h => by have := HOWN.out k hk; omega) rfl
            refine hK.out _ _ (fun _ => KEEP.out _ (hkC)) (fun hHeld => ?_); replace hHeld := hHeld rfl
            clear hK K
            try simp only [Act.put, List.setIfInBounds_toArray, List.set_cons_zero, List.set_cons_succ]
            refine anyE_take 11 (v := ?_) rfl (by kernel_rfl) (fun _ _ _ h => h) (by rfl) ?hy11q2 hHeld ?rest11q2
            case hy11q2 => (intro w hSw; (try dsimp only at hSw); go_simp; try with_reducible rfl)
            try simp only [Act.put, List.setIfInBounds_toArray, List.set_cons_zero, List.set_cons_succ]
            obtain ⟨rg0, rg1⟩ := RG.two
            have rf0 := RG.free 0
            have rf1 := RG.free 1
            refine anyE_one 13 rfl (by kernel_rfl) (fun K hK => ?_)
            go_simp
            refine hK.out _ _ (fun h => by simp at h) (fun hHeld => ?_)
            clear hK K
            try simp only [Act.put, List.setIfInBounds_toArray, List.set_cons_zero, List.set_cons_succ]
            refine anyE_done (by kernel_rfl) ?_ _
            go_wp2_with fail
            go_meet
            exact ⟨G, _, _, rfl, (hkC.setCell (show w6.heap.size ≤ G by omega) _).setCell (show w6.heap.size ≤ G by omega) _, row_set2 RG _ _, rows_more (T := fun b => b ≠ G) HOA.out HRA.out (fun b hb => ⟨fun e => by have := HOWN.out b e; have := hb.1.2; omega, by have := hb.1.2; omega⟩) (HIB.out.mono fun b hb => ⟨fun e => by have := HOWN.out b e; have := hb.1; omega, by have := hb.1; have := hb.2; omega⟩) hown6 HAG.out ((Agree.of_grown (grownBy_setCell _ G 0 _) fun b hb e => by cases e; exact hb rfl).trans (.of_grown (grownBy_setCell _ G 1 _) fun b hb e => by cases e; exact hb rfl)) (fun k hk => by cases hk; rcases HAT.out _ rfl with h | h; (have := HOWN.out _ h; omega); omega)⟩
        ·
          go_simp
          refine hK.out _ _ (fun _ => KEEP.out _ (ext_alloc' hkB _)) (fun hHeld => ?_); replace hHeld := hHeld rfl
          clear hK K
          try simp only [Act.put, List.setIfInBounds_toArray, List.set_cons_zero, List.set_cons_succ]
          have RG := row_new wB [.int .i64 0, .slice none 0 0] 24
          obtain ⟨wG, hwG⟩ : ∃ wG, wG = wB.alloc (.cells #[.int .i64 0, .slice none 0 0] 24) := ⟨_, rfl⟩
          obtain ⟨G, hG⟩ : ∃ G, G = wB.heap.size := ⟨_, rfl⟩
          have hcG : Below wB.heap.size wB wG := by rw [hwG]; exact ext_alloc _ _
          have hkwG : Below w6.heap.size w6 wG := ext_trans hkB hcG
          replace RG : Row wG G 24 [.int .i64 0, .slice none 0 0] := by rw [hwG, hG]; exact RG
          have hG1 : wB.heap.size ≤ G := by rw [hG]; exact Nat.le_refl _
          have hG2 : G ≤ wB.heap.size := by rw [hG]; exact Nat.le_refl _
          have hG3 := RG.lt
          have hzwG : wB.heap.size ≤ wG.heap.size := hcG.size
          rw [← hwG, ← hG]
          clear hwG hG
          replace hoA := owns_ext hoA hcG
          replace hrA := RefsV.ext hrA hcG
          replace hIB := hIB.ext hcG
          refine anyE_one 9 rfl (by kernel_rfl) (fun K hK => ?_)
          go_simp
          refine hK.out _ _ (fun _ => KEEP.out _ (ext_alloc' hkwG _)) (fun hHeld => ?_); replace hHeld := hHeld rfl
          clear hK K
          try simp only [Act.put, List.setIfInBounds_toArray, List.set_cons_zero, List.set_cons_succ]
          have RD := row_new wG [.slice aB (sumRows ll y).length cB] 38
          obtain ⟨wD, hwD⟩ : ∃ wD, wD = wG.alloc (.cells #[.slice aB (sumRows ll y).length cB] 38) := ⟨_, rfl⟩
          obtain ⟨D, hD⟩ : ∃ D, D = wG.heap.size := ⟨_, rfl⟩
          have hcD : Below wG.heap.size wG wD := by rw [hwD]; exact ext_alloc _ _
          have hkwD : Below w6.heap.size w6 wD := ext_trans hkwG hcD
          replace RD : Row wD D 38 [.slice aB (sumRows ll y).length cB] := by rw [hwD, hD]; exact RD
          have hD1 : wG.heap.size ≤ D := by rw [hD]; exact Nat.le_refl _
          have hD2 : D ≤ wG.heap.size := by rw [hD]; exact Nat.le_refl _
          have hD3 := RD.lt
          have hzwD : wG.heap.size ≤ wD.heap.size := hcD.size
          rw [← hwD, ← hD]
          clear hwD hD
          replace hoA := owns_ext hoA hcD
          replace hrA := RefsV.ext hrA hcD
          replace hIB := hIB.ext hcD
          replace RG := RG.ext hcD
          refine anyE_one 10 rfl (by kernel_rfl) (fun K hK => ?_)
          have HOA := Lib.hid hoA
          have HRA := Lib.hid hrA
          have HIB := Lib.hid hIB
          (refine step_appendAll (by rfl) (.tmp 54) (.tmp 59) 22 (by rfl) 38 _ 24 Try.underlying22 info_ints rfl BS vA ll.length vsA (by rfl) HOA.out TT (some ⟨D, 0, none⟩) 1 1 [.slice aB (sumRows ll y).length cB] (by rfl) (.inr ⟨_, _, rfl, RD.lt, trivial⟩) rfl (fun j hj => by (obtain rfl : j = 0 := by omega); rw [adr_add, Nat.zero_add]; exact RD.cell rfl) (fun u hu => by rw [List.mem_singleton.1 hu]; rfl) B1.out (by omega) (by omega) ?_; intro v6 wC hown6 hbel6 hag6 hat6; have hkC : Below w6.heap.size w6 wC := hkwD.trans (hbel6.mono (by omega)); have hzC := hkC.size; obtain ⟨g6, cp6, rfl⟩ := owns_pos hown6 (by omega))
          have HAG := Lib.hid hag6; have HAT := Lib.hid hat6
          replace RG := RG.agree (S := fun b => b = G) (HAG.out _ fun k hk h => by have := HOWN.out k hk; omega) rfl
          refine hK.out _ _ (fun _ => KEEP.out _ (hkC)) (fun hHeld => ?_); replace hHeld := hHeld rfl
          clear hK K
          try simp only [Act.put, List.setIfInBounds_toArray, List.set_cons_zero, List.set_cons_succ]
          refine anyE_take 11 (v := ?_) rfl (by kernel_rfl) (fun _ _ _ h => h) (by rfl) ?hy11q3 hHeld ?rest11q3
          case hy11q3 => (intro w hSw; (try dsimp only at hSw); go_simp; try with_reducible rfl)
          try simp only [Act.put, List.setIfInBounds_toArray, List.set_cons_zero, List.set_cons_succ]
          obtain ⟨rg0, rg1⟩ := RG.two
          have rf0 := RG.free 0
          have rf1 := RG.free 1
          refine anyE_one 13 rfl (by kernel_rfl) (fun K hK => ?_)
          go_simp
          refine hK.out _ _ (fun h => by simp at h) (fun hHeld => ?_)
          clear hK K
          try simp only [Act.put, List.setIfInBounds_toArray, List.set_cons_zero, List.set_cons_succ]
          refine anyE_done (by kernel_rfl) ?_ _
          go_wp2_with fail
          go_meet
          exact ⟨G, _, _, rfl, (hkC.setCell (show w6.heap.size ≤ G by omega) _).setCell (show w6.heap.size ≤ G by omega) _, row_set2 RG _ _, rows_more (T := fun b => b ≠ G) HOA.out HRA.out (fun b hb => ⟨fun e => by have := HOWN.out b e; have := hb.1.2; omega, by have := hb.1.2; omega⟩) (HIB.out.mono fun b hb => ⟨fun e => by have := HOWN.out b e; have := hb.1; omega, by have := hb.1; have := hb.2; omega⟩) hown6 HAG.out ((Agree.of_grown (grownBy_setCell _ G 0 _) fun b hb e => by cases e; exact hb rfl).trans (.of_grown (grownBy_setCell _ G 1 _) fun b hb e => by cases e; exact hb rfl)) (fun k hk => by cases hk; rcases HAT.out _ rfl with h | h; (have := HOWN.out _ h; omega); omega)⟩
      ·
        go_simp
        refine hK.out _ _ (fun _ => KEEP.out _ (ext_alloc' hkA _)) (fun hHeld => ?_); replace hHeld := hHeld rfl
        clear hK K
        try simp only [Act.put, List.setIfInBounds_toArray, List.set_cons_zero, List.set_cons_succ]
        have RG := row_new wA [.int .i64 0, .slice none 0 0] 24
        obtain ⟨wG, hwG⟩ : ∃ wG, wG = wA.alloc (.cells #[.int .i64 0, .slice none 0 0] 24) := ⟨_, rfl⟩
        obtain ⟨G, hG⟩ : ∃ G, G = wA.heap.size := ⟨_, rfl⟩
        have hcG : Below wA.heap.size wA wG := by rw [hwG]; exact ext_alloc _ _
        have hkwG : Below w6.heap.size w6 wG := ext_trans hkA hcG
        replace RG : Row wG G 24 [.int .i64 0, .slice none 0 0] := by rw [hwG, hG]; exact RG
        have hG1 : wA.heap.size ≤ G := by rw [hG]; exact Nat.le_refl _
        have hG2 : G ≤ wA.heap.size := by rw [hG]; exact Nat.le_refl _
        have hG3 := RG.lt
        have hzwG : wA.heap.size ≤ wG.heap.size := hcG.size
        rw [← hwG, ← hG]
        clear hwG hG
        replace hoA := owns_ext hoA hcG
        replace hrA := RefsV.ext hrA hcG
        refine anyE_one 8 rfl (by kernel_rfl) (fun K hK => ?_)
        go_simp; go_at_call 35; refine (refSum_calls (c := cols) (HL.out.ext hkwG) (hy.ext hkwG) OK.out.rok IY.out.2).mono ?_; rintro _ wB ⟨vB, rfl, hbB, hIB⟩; replace hIB := hIB.block 0; obtain ⟨aB, cB, rfl, _⟩ := hIB.form; have hkB : Below w6.heap.size w6 wB := ext_trans hkwG hbB; have hzB := hbB.size
        replace hoA := owns_ext hoA hbB
        replace hrA := RefsV.ext hrA hbB
        replace RG := RG.ext hbB
        refine hK.out _ _ (fun _ => KEEP.out _ (hkB)) (fun hHeld => ?_); replace hHeld := hHeld rfl
        clear hK K
        try simp only [Act.put, List.setIfInBounds_toArray, List.set_cons_zero, List.set_cons_succ]
        refine anyE_one 9 rfl (by kernel_rfl) (fun K hK => ?_)
        go_simp
        refine hK.out _ _ (fun _ => KEEP.out _ (ext_alloc' hkB _)) (fun hHeld => ?_); replace hHeld := hHeld rfl
        clear hK K
        try simp only [Act.put, List.setIfInBounds_toArray, List.set_cons_zero, List.set_cons_succ]
        have RD := row_new wB [.slice aB (sumRows ll y).length cB] 38
        obtain ⟨wD, hwD⟩ : ∃ wD, wD = wB.alloc (.cells #[.slice aB (sumRows ll y).length cB] 38) := ⟨_, rfl⟩
        obtain ⟨D, hD⟩ : ∃ D, D = wB.heap.size := ⟨_, rfl⟩
        have hcD : Below wB.heap.size wB wD := by rw [hwD]; exact ext_alloc _ _
        have hkwD : Below w6.heap.size w6 wD := ext_trans hkB hcD
        replace RD : Row wD D 38 [.slice aB (sumRows ll y).length cB] := by rw [hwD, hD]; exact RD
        have hD1 : wB.heap.size ≤ D := by rw [hD]; exact Nat.le_refl _
        have hD2 : D ≤ wB.heap.size := by rw [hD]; exact Nat.le_refl _
        have hD3 := RD.lt
        have hzwD : wB.heap.size ≤ wD.heap.size := hcD.size
        rw [← hwD, ← hD]
        clear hwD hD
        replace hoA := owns_ext hoA hcD
        replace hrA := RefsV.ext hrA hcD
        replace RG := RG.ext hcD
        replace hIB := hIB.ext hcD
        refine anyE_one 10 rfl (by kernel_rfl) (fun K hK => ?_)
        have HOA := Lib.hid hoA
        have HRA := Lib.hid hrA
        have HIB := Lib.hid hIB
        (refine step_appendAll (by rfl) (.tmp 54) (.tmp 59) 22 (by rfl) 38 _ 24 Try.underlying22 info_ints rfl BS vA ll.length vsA (by rfl) HOA.out TT (some ⟨D, 0, none⟩) 1 1 [.slice aB (sumRows ll y).length cB] (by rfl) (.inr ⟨_, _, rfl, RD.lt, trivial⟩) rfl (fun j hj => by (obtain rfl : j = 0 := by omega); rw [adr_add, Nat.zero_add]; exact RD.cell rfl) (fun u hu => by rw [List.mem_singleton.1 hu]; rfl) B1.out (by omega) (by omega) ?_; intro v6 wC hown6 hbel6 hag6 hat6; have hkC : Below w6.heap.size w6 wC := hkwD.trans (hbel6.mono (by omega)); have hzC := hkC.size; obtain ⟨g6, cp6, rfl⟩ := owns_pos hown6 (by omega))
        have HAG := Lib.hid hag6; have HAT := Lib.hid hat6
        replace RG := RG.agree (S := fun b => b = G) (HAG.out _ fun k hk h => by have := HOWN.out k hk; omega) rfl
        refine hK.out _ _ (fun _ => KEEP.out _ (hkC)) (fun hHeld => ?_); replace hHeld := hHeld rfl
        clear hK K
        try simp only [Act.put, List.setIfInBounds_toArray, List.set_cons_zero, List.set_cons_succ]
        refine anyE_take 11 (v := ?_) rfl (by kernel_rfl) (fun _ _ _ h => h) (by rfl) ?hy11q4 hHeld ?rest11q4
        case hy11q4 => (intro w hSw; (try dsimp only at hSw); go_simp; try with_reducible rfl)
        try simp only [Act.put, List.setIfInBounds_toArray, List.set_cons_zero, List.set_cons_succ]
        obtain ⟨rg0, rg1⟩ := RG.two
        have rf0 := RG.free 0
        have rf1 := RG.free 1
        refine anyE_one 13 rfl (by kernel_rfl) (fun K hK => ?_)
        go_simp
        refine hK.out _ _ (fun h => by simp at h) (fun hHeld => ?_)
        clear hK K
        try simp only [Act.put, List.setIfInBounds_toArray, List.set_cons_zero, List.set_cons_succ]
        refine anyE_done (by kernel_rfl) ?_ _
        go_wp2_with fail
        go_meet
        exact ⟨G, _, _, rfl, (hkC.setCell (show w6.heap.size ≤ G by omega) _).setCell (show w6.heap.size ≤ G by omega) _, row_set2 RG _ _, rows_more (T := fun b => b ≠ G) HOA.out HRA.out (fun b hb => ⟨fun e => by have := HOWN.out b e; have := hb.1.2; omega, by have := hb.1.2; omega⟩) (HIB.out.mono fun b hb => ⟨fun e => by have := HOWN.out b e; have := hb.1; omega, by have := hb.1; have := hb.2; omega⟩) hown6 HAG.out ((Agree.of_grown (grownBy_setCell _ G 0 _) fun b hb e => by cases e; exact hb rfl).trans (.of_grown (grownBy_setCell _ G 1 _) fun b hb e => by cases e; exact hb rfl)) (fun k hk => by cases hk; rcases HAT.out _ rfl with h | h; (have := HOWN.out _ h; omega); omega)⟩
    ·
      go_simp
      refine hK.out _ _ (fun _ => KEEP.out _ (ext_alloc' (drewN_below _ _ 1) _)) (fun hHeld => ?_); replace hHeld := hHeld rfl
      clear hK K
      try simp only [Act.put, List.setIfInBounds_toArray, List.set_cons_zero, List.set_cons_succ]
      have RG := row_new w6 [.int .i64 0, .slice none 0 0] 24
      obtain ⟨wG, hwG⟩ : ∃ wG, wG = (w6.alloc (.cells #[.int .i64 0, .slice none 0 0] 24)).drew := ⟨_, rfl⟩
      obtain ⟨G, hG⟩ : ∃ G, G = w6.heap.size := ⟨_, rfl⟩
      have hcG : Below w6.drew.heap.size w6.drew wG := by rw [hwG]; exact (fun h : Below w6.heap.size w6 (w6.alloc (.cells #[.int .i64 0, .slice none 0 0] 24)) => ⟨h.1, h.2, h.3, h.4, h.5⟩) (ext_alloc _ _)
      have hkwG : Below w6.heap.size w6 wG := ext_trans (drewN_below _ _ 1) hcG
      replace RG : Row wG G 24 [.int .i64 0, .slice none 0 0] := by rw [hwG, hG]; exact RG
      have hG1 : w6.heap.size ≤ G := by rw [hG]; exact Nat.le_refl _
      have hG2 : G ≤ w6.heap.size := by rw [hG]; exact Nat.le_refl _
      have hG3 := RG.lt
      have hzwG : w6.heap.size ≤ wG.heap.size := hcG.size
      rw [← hwG, ← hG]
      clear hwG hG
      refine anyE_one 4 rfl (by kernel_rfl) (fun K hK => ?_)
      obtain ⟨BS, hBS⟩ : ∃ BS, BS = wG.heap.size := ⟨_, rfl⟩
      have hBS1 : BS ≤ wG.heap.size := by rw [hBS]; exact Nat.le_refl _
      have hBS2 : wG.heap.size ≤ BS := by rw [hBS]; exact Nat.le_refl _
      have HCL := Lib.hid (cloneL_calls (w := wG) (HL.out.block.ext hkwG) (by omega))
      rw [← hBS] at HCL
      clear hBS; go_simp; go_at_call 34; refine HCL.out.mono ?_; rintro _ wA ⟨vA, rfl, hbA, vsA, hoA, hrA⟩; have hkA : Below w6.heap.size w6 wA := ext_trans hkwG hbA; have hzA := hbA.size; have hKs : w6.heap.size ≤ wG.heap.size := Below.size (B := w6.heap.size) (w := w6) hkwG
      have HOWN := Lib.hid (fun (k : Nat) (hk : vA.ownBlock = some k) => hoA.lt k hk)
      replace RG := RG.ext hbA
      refine hK.out _ _ (fun _ => KEEP.out _ (hkA)) (fun hHeld => ?_); replace hHeld := hHeld rfl
      clear hK K
      try simp only [Act.put, List.setIfInBounds_toArray, List.set_cons_zero, List.set_cons_succ]
      refine anyE_one 8 rfl (by kernel_rfl) (fun K hK => ?_)
      go_simp; go_at_call 35; refine (refSum_calls (c := cols) (HL.out.ext hkA) (hy.ext hkA) OK.out.rok IY.out.2).mono ?_; rintro _ wB ⟨vB, rfl, hbB, hIB⟩; replace hIB := hIB.block 0; obtain ⟨aB, cB, rfl, _⟩ := hIB.form; have hkB : Below w6.heap.size w6 wB := ext_trans hkA hbB; have hzB := hbB.size
      replace RG := RG.ext hbB
      replace hoA := owns_ext hoA hbB
      replace hrA := RefsV.ext hrA hbB
      refine hK.out _ _ (fun _ => KEEP.out _ (hkB)) (fun hHeld => ?_); replace hHeld := hHeld rfl
      clear hK K
      try simp only [Act.put, List.setIfInBounds_toArray, List.set_cons_zero, List.set_cons_succ]
      refine anyE_one 9 rfl (by kernel_rfl) (fun K hK => ?_)
      go_simp
      refine hK.out _ _ (fun _ => KEEP.out _ (ext_alloc' hkB _)) (fun hHeld => ?_); replace hHeld := hHeld rfl
      clear hK K
      try simp only [Act.put, List.setIfInBounds_toArray, List.set_cons_zero, List.set_cons_succ]
      have RD := row_new wB [.slice aB (sumRows ll y).length cB] 38
      obtain ⟨wD, hwD⟩ : ∃ wD, wD = wB.alloc (.cells #[.slice aB (sumRows ll y).length cB] 38) := ⟨_, rfl⟩
      obtain ⟨D, hD⟩ : ∃ D, D = wB.heap.size := ⟨_, rfl⟩
      have hcD : Below wB.heap.size wB wD := by rw [hwD]; exact ext_alloc _ _
      have hkwD : Below w6.heap.size w6 wD := ext_trans hkB hcD
      replace RD : Row wD D 38 [.slice aB (sumRows ll y).length cB] := by rw [hwD, hD]; exact RD
      have hD1 : wB.heap.size ≤ D := by rw [hD]; exact Nat.le_refl _
      have hD2 : D ≤ wB.heap.size := by rw [hD]; exact Nat.le_refl _
      have hD3 := RD.lt
      have hzwD : wB.heap.size ≤ wD.heap.size := hcD.size
      rw [← hwD, ← hD]
      clear hwD hD
      replace RG := RG.ext hcD
      replace hoA := owns_ext hoA hcD
      replace hrA := RefsV.ext hrA hcD
      replace hIB := hIB.ext hcD
      refine anyE_one 10 rfl (by kernel_rfl) (fun K hK => ?_)
      have HOA := Lib.hid hoA
      have HRA := Lib.hid hrA
      have HIB := Lib.hid hIB
      (refine step_appendAll (by rfl) (.tmp 54) (.tmp 59) 22 (by rfl) 38 _ 24 Try.underlying22 info_ints rfl BS vA ll.length vsA (by rfl) HOA.out TT (some ⟨D, 0, none⟩) 1 1 [.slice aB (sumRows ll y).length cB] (by rfl) (.inr ⟨_, _, rfl, RD.lt, trivial⟩) rfl (fun j hj => by (obtain rfl : j = 0 := by omega); rw [adr_add, Nat.zero_add]; exact RD.cell rfl) (fun u hu => by rw [List.mem_singleton.1 hu]; rfl) B1.out (by omega) (by omega) ?_; intro v6 wC hown6 hbel6 hag6 hat6; have hkC : Below w6.heap.size w6 wC := hkwD.trans (hbel6.mono (by omega)); have hzC := hkC.size; obtain ⟨g6, cp6, rfl⟩ := owns_pos hown6 (by omega))
      have HAG := Lib.hid hag6; have HAT := Lib.hid hat6
      replace RG := RG.agree (S := fun b => b = G) (HAG.out _ fun k hk h => by have := HOWN.out k hk; omega) rfl
      refine hK.out _ _ (fun _ => KEEP.out _ (hkC)) (fun hHeld => ?_); replace hHeld := hHeld rfl
      clear hK K
      try simp only [Act.put, List.setIfInBounds_toArray, List.set_cons_zero, List.set_cons_succ]
      refine anyE_take 11 (v := ?_) rfl (by kernel_rfl) (fun _ _ _ h => h) (by rfl) ?hy11q5 hHeld ?rest11q5
      case hy11q5 => (intro w hSw; (try dsimp only at hSw); go_simp; try with_reducible rfl)
      try simp only [Act.put, List.setIfInBounds_toArray, List.set_cons_zero, List.set_cons_succ]
      obtain ⟨rg0, rg1⟩ := RG.two
      have rf0 := RG.free 0
      have rf1 := RG.free 1
      refine anyE_one 13 rfl (by kernel_rfl) (fun K hK => ?_)
      go_simp
      refine hK.out _ _ (fun h => by simp at h) (fun hHeld => ?_)
      clear hK K
      try simp only [Act.put, List.setIfInBounds_toArray, List.set_cons_zero, List.set_cons_succ]
      refine anyE_done (by kernel_rfl) ?_ _
      go_wp2_with fail
      go_meet
      exact ⟨G, _, _, rfl, (hkC.setCell (show w6.heap.size ≤ G by omega) _).setCell (show w6.heap.size ≤ G by omega) _, row_set2 RG _ _, rows_more (T := fun b => b ≠ G) HOA.out HRA.out (fun b hb => ⟨fun e => by have := HOWN.out b e; have := hb.1.2; omega, by have := hb.1.2; omega⟩) (HIB.out.mono fun b hb => ⟨fun e => by have := HOWN.out b e; have := hb.1; omega, by have := hb.1; have := hb.2; omega⟩) hown6 HAG.out ((Agree.of_grown (grownBy_setCell _ G 0 _) fun b hb e => by cases e; exact hb rfl).trans (.of_grown (grownBy_setCell _ G 1 _) fun b hb e => by cases e; exact hb rfl)) (fun k hk => by cases hk; rcases HAT.out _ rfl with h | h; (have := HOWN.out _ h; omega); omega)⟩
  case rest =>
    obtain ⟨G, a6, c6, rfl, hbc, R3, hl6⟩ := hcut
    obtain ⟨w7, rfl⟩ : ∃ w : World, w = wc := ⟨_, rfl⟩
    have hl := HL.out.ext hbc
    have h6 : MatV TT w7 (.agg #[.int .i64 cols, .slice a6 (ll.length + 1) c6]) ⟨cols, ll ++ [sumRows ll y]⟩ := ⟨_, rfl, hl6⟩
    replace hy := hy.ext hbc
    replace h1 := h1.ext hbc
    replace h2 := h2.ext hbc
    replace R0 := R0.ext hbc
    replace R1 := R1.ext hbc
    replace R2 := R2.ext hbc
    replace HB := ext_trans HB hbc
    clear hbc hl6 KEEP
    obtain ⟨R0a, R0b⟩ := R0.two
    obtain ⟨R1a, R1b⟩ := R1.two
    obtain ⟨R2a, R2b⟩ := R2.two
    obtain ⟨R3a, R3b⟩ := R3.two
    have KK := Lib.hid (ech_gen h6 HM3.out)
    go_wp2_with fail
    refine KK.out.mono ?_
    rintro _ w8 ⟨_, rfl, hb8, ga, gu, rfl, h3⟩
    clear KK
    have hy8 := hb8
    replace hy := hy.ext hy8
    replace h1 := h1.ext hy8
    replace h2 := h2.ext hy8
    replace h6 := h6.ext hy8
    replace hl := hl.ext hy8
    replace R0 := R0.ext hy8
    replace R1 := R1.ext hy8
    replace R2 := R2.ext hy8
    replace R3 := R3.ext hy8
    replace HB := ext_trans HB hy8
    clear R0a R0b R1a R1b R2a R2b R3a R3b hy8 hb8
    have ex9 := ext_alloc w8 (.cells #[.int .i64 cols, .slice ga el.length gu] 24)
    have hyx := hy.ext ex9
    have h1x := h1.ext ex9
    have h2x := h2.ext ex9
    have h6x := h6.ext ex9
    have hlx := hl.ext ex9
    have h3x := h3.ext ex9
    obtain ⟨R0a, R0b⟩ := R0.two
    obtain ⟨R0y1a, R0y1b⟩ := (R0.ext (ext_alloc w8 (.cells #[.int .i64 cols, .slice ga el.length gu] 24))).two
    obtain ⟨R1a, R1b⟩ := R1.two
    obtain ⟨R1y1a, R1y1b⟩ := (R1.ext (ext_alloc w8 (.cells #[.int .i64 cols, .slice ga el.length gu] 24))).two
    obtain ⟨R2a, R2b⟩ := R2.two
    obtain ⟨R2y1a, R2y1b⟩ := (R2.ext (ext_alloc w8 (.cells #[.int .i64 cols, .slice ga el.length gu] 24))).two
    obtain ⟨R3a, R3b⟩ := R3.two
    obtain ⟨R3y1a, R3y1b⟩ := (R3.ext (ext_alloc w8 (.cells #[.int .i64 cols, .slice ga el.length gu] 24))).two
    have R4 := row_new w8 [.int .i64 cols, .slice ga el.length gu] 24
    have KK := Lib.hid (sameM_lit h1x h2x rfl)
    go_wp2_with fail
    refine KK.out.mono ?_
    rintro _ w9 ⟨_, rfl, hb9, rfl⟩
    clear KK
    have hy9 := ext_trans ex9 hb9
    replace hy := hy.ext hy9
    replace h1 := h1.ext hy9
    replace h2 := h2.ext hy9
    replace h6 := h6.ext hy9
    replace hl := hl.ext hy9
    replace h3 := h3.ext hy9
    replace R0 := R0.ext hy9
    replace R1 := R1.ext hy9
    replace R2 := R2.ext hy9
    replace R3 := R3.ext hy9
    replace R4 := R4.ext hb9
    replace HB := ext_trans HB hy9
    clear ex9 hyx h1x h2x h6x hlx h3x R0a R0b R0y1a R0y1b R1a R1b R1y1a R1y1b R2a R2b R2y1a R2y1b R3a R3b R3y1a R3y1b hy9 hb9
    obtain ⟨R0a, R0b⟩ := R0.two
    obtain ⟨R1a, R1b⟩ := R1.two
    obtain ⟨R2a, R2b⟩ := R2.two
    obtain ⟨R3a, R3b⟩ := R3.two
    obtain ⟨R4a, R4b⟩ := R4.two
    have KK := Lib.hid (sameM_lit h1 h3 rfl)
    go_wp2_with fail
    refine KK.out.mono ?_
    rintro _ w10 ⟨_, rfl, hb10, rfl⟩
    clear KK
    have hy10 := hb10
    replace hy := hy.ext hy10
    replace h1 := h1.ext hy10
    replace h2 := h2.ext hy10
    replace h6 := h6.ext hy10
    replace hl := hl.ext hy10
    replace h3 := h3.ext hy10
    replace R0 := R0.ext hy10
    replace R1 := R1.ext hy10
    replace R2 := R2.ext hy10
    replace R3 := R3.ext hy10
    replace R4 := R4.ext hy10
    replace HB := ext_trans HB hy10
    clear R0a R0b R1a R1b R2a R2b R3a R3b R4a R4b hy10 hb10
    obtain ⟨rk1, hrk, hle⟩ := h1
    have hrv : rk1 = .slice ea el.length eu := by
      have := congrArg (fun v => match v with | .agg xs => xs[1]? | _ => none) hrk
      simpa using this.symm
    subst hrv
    clear hrk
    dsimp only at hle
    obtain ⟨i0, hi, hz0, hz1, hz2⟩ := info_parts info_ints
    obtain ⟨_, _, hfo, had, _⟩ := hle.form
    injection hfo with e1 e2 e3
    subst e1 e3
    have HQE := Lib.hid (idx_one Try.underlying22 hi hz1 had)
    obtain ⟨_, _, hfo, had', _⟩ := hl.form
    injection hfo with e1 e2 e3
    subst e1 e3
    have HQL := Lib.hid (idx_one Try.underlying22 hi hz1 had')
    clear hi hz0 hz1 hz2 had had'
    have HLE := Lib.hid hle
    have HLL := Lib.hid hl
    clear hle hl
    obtain ⟨R0a, R0b⟩ := R0.two
    have hbz : Below w10.heap.size w10 w10 := .refl _ _
    go_wp2
    go_loopw [13, 14, 16, 88, 96] (fun _ _ _ i _ wr => ∃ j : Nat, j ≤ ll.length ∧ i = .int .i64 j ∧ Below w10.heap.size w10 wr) (fun _ _ _ i _ _ => ll.length - (intOf i).toNat)
    case atStart => exact ⟨0, Nat.zero_le _, rfl, hbz⟩
    case round =>
      obtain ⟨j, hj, rfl, hbr⟩ := hrel
      obtain ⟨wo, hwo⟩ : ∃ wo : World, wo = wr := ⟨_, rfl⟩
      rw [← hwo] at hbr ⊢
      clear hwo
      by_cases hlt : j < ll.length
      · have q := HQL.out j hlt
        obtain ⟨u, cu, iu⟩ := HLL.out.at hbr hlt
        have HLR := Lib.hid (HLF.out _ (nthL_mem hlt))
        have HRI := Lib.hid (OK.out.row_inR hlt)
        dsimp only at HRI
        obtain ⟨r, hr⟩ : ∃ r, r = nthL ll j := ⟨_, rfl⟩
        rw [← hr] at iu HLR HRI
        have HRL := Lib.hid (leftTo_length HER.out HRI.out)
        obtain ⟨ar, cr, rfl, _⟩ := iu.form
        have IU := Lib.hid (iu.mono (S' := TT) fun _ _ => trivial)
        have I0 : Hid (Ints TT wo (.slice ar r.length cr) (leftTo el r 0)) := Lib.hid IU.out
        have R1o := R1.ext hbr
        obtain ⟨R1a, R1b⟩ := R1o.two
        have hbz2 : Below wo.heap.size wo wo := .refl _ _
        clear hr iu
        go_wp2
        go_loopw [14, 16, 96] (fun vo _ i wi => ∃ n : Nat, n ≤ el.length ∧ i = .int .i64 n ∧ Below wo.heap.size wo wi ∧ Ints TT wi vo (leftTo el r n)) (fun _ _ i _ => el.length - (intOf i).toNat)
        case atStart => exact ⟨0, Nat.zero_le _, rfl, hbz2, I0.out⟩
        case round =>
          obtain ⟨n, hn, rfl, hbi, hI⟩ := hrel
          have hbw := ext_trans hbr hbi
          obtain ⟨av, cv, rfl, _⟩ := hI.form
          by_cases hne : n < el.length
          · have qe := HQE.out n hne
            obtain ⟨ue, cue, iue⟩ := HLE.out.at hbw hne
            have hnil := HEN.out _ (nthL_mem hne)
            have hxi := (HER.out _ (nthL_mem hne)).length
            have HT := Lib.hid (leftTo_next el r n)
            have hll := (HRL.out n (by omega)).length
            obtain ⟨x, hx⟩ : ∃ x, x = nthL el n := ⟨_, rfl⟩
            rw [← hx] at iue hnil hxi HT
            obtain ⟨ax, cx, rfl, _⟩ := iue.form
            obtain ⟨cf, qf, bf⟩ := first_cell iue hnil
            obtain ⟨p, hp⟩ : ∃ p, p = lead x := ⟨_, rfl⟩
            rw [← hp] at cf HT
            have hxl : 0 < x.length := List.length_pos_iff.2 hnil
            have e0 : ((x.length : Int) == 0) = false := by simp; exact hnil
            obtain ⟨lf, hlf⟩ : ∃ lf, lf = leftTo el r n := ⟨_, rfl⟩
            rw [← hlf] at hI HT hll ⊢
            have KC := Lib.hid (contains_gen (IU.out.ext hbi) p)
            have HI := Lib.hid hI
            have HIX := Lib.hid iue
            clear hx hp hlf hI hnil iue
            go_wp2_with fail
            refine KC.out.mono ?_
            rintro _ w5 ⟨_, rfl, hb5, rfl⟩
            have hb5' := ext_trans hbi hb5
            have I5 := HI.out.ext hb5
            cases hod : memB r p with
            | false =>
              rw [hod, if_neg (by simp)] at HT
              rw [← HT.out] at I5
              have I5 := Lib.hid I5
              have e : (Value.slice av lf.length cv) = .slice av (leftTo el r (n + 1)).length cv := by rw [HT.out]
              rw [e]
              clear hod e
              go_wp2
              go_roundw
              case rel => exact ⟨n + 1, by omega, by go_num, hb5', I5.out⟩
              case measure => simp [intOf]; omega
            | true =>
              rw [hod, if_pos rfl] at HT
              have KP := Lib.hid (plus_calls I5 (HIX.out.ext hb5) (by omega))
              clear hod
              go_wp2_with fail
              refine KP.out.mono ?_
              rintro _ w7 ⟨v7, rfl, hb7, hI7⟩
              have hb7' := ext_trans hb5' hb7
              rw [← HT.out] at hI7
              have I7 := Lib.hid (hI7.mono (S' := TT) fun _ _ => trivial)
              clear hI7 KP
              go_wp2
              go_roundw
              case rel => exact ⟨n + 1, by omega, by go_num, hb7', I7.out⟩
              case measure => simp [intOf]; omega
          · obtain rfl : n = el.length := by omega
            rw [HLR.out]
            clear hI
            have HB2 := hbw
            go_wp2
            go_roundw
            case rel => exact ⟨j + 1, by omega, by go_num, HB2⟩
            case measure => simp [intOf]; omega
      · have HB3 := ext_trans HB hbr
        go_wp2_with fail
        refine (awake_calls _).mono ?_
        rintro _ we ⟨_, rfl, hbe, rfl⟩
        go_wp2
        go_ret
        exact .mk (ext_trans HB3 hbe) rfl
end Go.Proofs.Ytijmjliijjkcbaa
