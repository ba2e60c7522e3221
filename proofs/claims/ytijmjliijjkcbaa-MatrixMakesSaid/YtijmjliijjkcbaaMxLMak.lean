/- The walk of MatrixMakes. Printed by mak05.py. -/
import Derived.Test.YtijmjliijjkcbaaMxLaw0
import Derived.Test.YtijmjliijjkcbaaMxApply2
import Derived.Test.YtijmjliijjkcbaaReg
namespace Go.Proofs.Ytijmjliijjkcbaa
set_option linter.unusedVariables false
open Go.RowKit
attribute [local go_sem ↓] Go.wp_at_zero Go.wp_at_succ

set_option maxRecDepth 100000 in
set_option maxHeartbeats 4000000 in
theorem walkMatrixMakes {Sm Sx : Nat → Prop} {w : World} {vm vx : Value} {m : Mx} {x : List Int} (hm : MatV Sm w vm m) (hx : Ints Sx w vx x) :
    Calls Try.prog 8 #[vm, vx] w (Post w fun _ r => r = .bool true) := by
  obtain ⟨cols, ll⟩ := m
  obtain ⟨rm, rfl, lam⟩ := hm
  obtain ⟨am, nm, rfl, _⟩ := lam.form
  dsimp only at lam ⊢
  have hm : MatV Sm w (.agg #[.int .i64 cols, .slice am ll.length nm]) ⟨cols, ll⟩ := ⟨_, rfl, lam⟩
  clear lam
  obtain ⟨ax, nx, rfl, _⟩ := hx.form
  have HB := Below.refl w.heap.size w
  have HT := Lib.hid (⟨_, rfl⟩ : ∃ t, t = transS ⟨cols, ll⟩)
  obtain ⟨⟨⟨tc, tl⟩, te⟩, hT⟩ := HT.out
  have HTT := Lib.hid hT
  clear HT hT
  obtain ⟨⟨yl, ye⟩, hY⟩ : ∃ y, y = applyS ⟨cols, ll⟩ x := ⟨_, rfl⟩
  have HY := Lib.hid hY
  clear hY
  obtain ⟨ck, hck⟩ : ∃ ck, ck = checkM ⟨cols, ll⟩ := ⟨_, rfl⟩
  have HC := Lib.hid hck
  clear hck
  go_enter Try.func8, Try.ntmps8
  have ex1 := ext_alloc' (ext_alloc w (.cells #[.int .i64 cols, .slice am ll.length nm] 24)) (.cells #[.int .i64 cols, .slice am ll.length nm] 24)
  have hmx := hm.ext ex1
  have hxx := hx.ext ex1
  have R0 := row_new w [.int .i64 cols, .slice am ll.length nm] 24
  replace R0 := R0.ext (ext_alloc (w.alloc (.cells #[.int .i64 cols, .slice am ll.length nm] 24)) (.cells #[.int .i64 cols, .slice am ll.length nm] 24))
  have KK := Lib.hid (few1 (hm.ext (ext_alloc w (.cells #[.int .i64 cols, .slice am ll.length nm] 24))) (B := w.heap.size + 1) (e := 24) (by simp))
  go_wp2_with fail
  refine KK.out.mono ?_
  rintro _ w1 ⟨_, rfl, hb1, rfl⟩
  clear KK
  have hy1 := ext_trans ex1 hb1
  replace hm := hm.ext hy1
  replace hx := hx.ext hy1
  replace R0 := R0.ext hb1
  replace HB := ext_trans HB hy1
  clear ex1 hmx hxx hy1 hb1
  cases hf : fewM ⟨cols, ll⟩ with
  | false =>
    clear hf
    go_wp2_with fail
    refine (awake_calls _).mono ?_
    rintro _ w3 ⟨_, rfl, hb3, rfl⟩
    go_wp2
    go_ret
    exact .mk (ext_trans HB hb3) rfl
  | true =>
  clear hf
  by_cases hlx : 40 < x.length
  · have d1 : decide (40 < x.length) = true := decide_eq_true hlx
    go_wp2_with fail
    refine (awake_calls _).mono ?_
    rintro _ w3 ⟨_, rfl, hb3, rfl⟩
    go_wp2
    go_ret
    exact .mk (ext_trans HB hb3) rfl
  have d1 : decide (40 < x.length) = false := decide_eq_false hlx
  obtain ⟨R0a, R0b⟩ := R0.two
  have KK := Lib.hid (trans_gen hm HTT.out.symm)
  go_wp2_with fail
  refine KK.out.mono ?_
  rintro _ w2 ⟨_, rfl, hb2, ta, tn, rfl, ht⟩
  clear KK
  have hy2 := hb2
  replace hm := hm.ext hy2
  replace hx := hx.ext hy2
  replace R0 := R0.ext hy2
  replace HB := ext_trans HB hy2
  clear R0a R0b hy2 hb2
  have ex3 := ext_alloc w2 (.cells #[.int .i64 tc, .slice ta tl.length tn] 24)
  have hmx := hm.ext ex3
  have hxx := hx.ext ex3
  have htx := ht.ext ex3
  obtain ⟨R0a, R0b⟩ := R0.two
  obtain ⟨R0y1a, R0y1b⟩ := (R0.ext (ext_alloc w2 (.cells #[.int .i64 tc, .slice ta tl.length tn] 24))).two
  have R1 := row_new w2 [.int .i64 tc, .slice ta tl.length tn] 24
  have KK := Lib.hid (refTrans_gen hmx HTT.out.symm)
  go_wp2_with fail
  refine KK.out.mono ?_
  rintro _ w3 ⟨_, rfl, hb3, ua, un, rfl, hu⟩
  clear KK
  have hy3 := ext_trans ex3 hb3
  replace hm := hm.ext hy3
  replace hx := hx.ext hy3
  replace ht := ht.ext hy3
  replace R0 := R0.ext hy3
  replace R1 := R1.ext hb3
  replace HB := ext_trans HB hy3
  clear ex3 hmx hxx htx R0a R0b R0y1a R0y1b hy3 hb3
  have ex4 := ext_alloc w3 (.cells #[.int .i64 tc, .slice ua tl.length un] 24)
  have hmx := hm.ext ex4
  have hxx := hx.ext ex4
  have htx := ht.ext ex4
  have hux := hu.ext ex4
  obtain ⟨R0a, R0b⟩ := R0.two
  obtain ⟨R0y1a, R0y1b⟩ := (R0.ext (ext_alloc w3 (.cells #[.int .i64 tc, .slice ua tl.length un] 24))).two
  obtain ⟨R1a, R1b⟩ := R1.two
  obtain ⟨R1y1a, R1y1b⟩ := (R1.ext (ext_alloc w3 (.cells #[.int .i64 tc, .slice ua tl.length un] 24))).two
  have R2 := row_new w3 [.int .i64 tc, .slice ua tl.length un] 24
  have KK := Lib.hid (apply_gen hmx hxx HY.out.symm)
  go_wp2_with fail
  refine KK.out.mono ?_
  rintro _ w4 ⟨_, rfl, hb4, ya, yn, rfl, hy⟩
  clear KK
  have hy4 := ext_trans ex4 hb4
  replace hm := hm.ext hy4
  replace hx := hx.ext hy4
  replace ht := ht.ext hy4
  replace hu := hu.ext hy4
  replace R0 := R0.ext hy4
  replace R1 := R1.ext hy4
  replace R2 := R2.ext hb4
  replace HB := ext_trans HB hy4
  clear ex4 hmx hxx htx hux R0a R0b R0y1a R0y1b R1a R1b R1y1a R1y1b hy4 hb4
  obtain ⟨R0a, R0b⟩ := R0.two
  obtain ⟨R1a, R1b⟩ := R1.two
  obtain ⟨R2a, R2b⟩ := R2.two
  have KK := Lib.hid (refApply_gen hm hx HY.out.symm)
  go_wp2_with fail
  refine KK.out.mono ?_
  rintro _ w5 ⟨_, rfl, hb5, za, zn, rfl, hz⟩
  clear KK
  have hy5 := hb5
  replace hm := hm.ext hy5
  replace hx := hx.ext hy5
  replace ht := ht.ext hy5
  replace hu := hu.ext hy5
  replace hy := hy.ext hy5
  replace R0 := R0.ext hy5
  replace R1 := R1.ext hy5
  replace R2 := R2.ext hy5
  replace HB := ext_trans HB hy5
  clear R0a R0b R1a R1b R2a R2b hy5 hb5
  have KEEP : Hid (∀ W', Below w5.heap.size w5 W' → (fun w' : World => w'.cell? ⟨w.heap.size, 0, none⟩ = some (.int .i64 cols) ∧ w'.cell? ⟨w.heap.size, 1, none⟩ = some (.slice am ll.length nm) ∧ w'.cell? ⟨w2.heap.size, 0, none⟩ = some (.int .i64 tc) ∧ w'.cell? ⟨w2.heap.size, 1, none⟩ = some (.slice ta tl.length tn) ∧ w'.cell? ⟨w3.heap.size, 0, none⟩ = some (.int .i64 tc) ∧ w'.cell? ⟨w3.heap.size, 1, none⟩ = some (.slice ua tl.length un)) W') := Lib.hid (fun W' hW' => ⟨(R0.ext hW').two.1, (R0.ext hW').two.2, (R1.ext hW').two.1, (R1.ext hW').two.2, (R2.ext hW').two.1, (R2.ext hW').two.2⟩)
  have R0lt := R0.lt
  have R1lt := R1.lt
  have R2lt := R2.lt
  clear R0 R1 R2
  go_wp2_with fail
  refine region_E (fun w' : World => w'.cell? ⟨w.heap.size, 0, none⟩ = some (.int .i64 cols) ∧ w'.cell? ⟨w.heap.size, 1, none⟩ = some (.slice am ll.length nm) ∧ w'.cell? ⟨w2.heap.size, 0, none⟩ = some (.int .i64 tc) ∧ w'.cell? ⟨w2.heap.size, 1, none⟩ = some (.slice ta tl.length tn) ∧ w'.cell? ⟨w3.heap.size, 0, none⟩ = some (.int .i64 tc) ∧ w'.cell? ⟨w3.heap.size, 1, none⟩ = some (.slice ua tl.length un)) (fun i => false) (by kernel_rfl) ?_ (fun hHeld => ?_)
  · exact KEEP.out _ (drewN_below _ _ 1)
  refine anyE_one 0 rfl (by kernel_rfl) (fun K hK => ?_)
  go_simp; go_at_call 15; refine (awake_calls _).mono ?_; rintro _ w6 ⟨_, rfl, hb6, rfl⟩; have hk6 : Below w5.heap.size w5 w6 := ext_trans (drewN_below _ _ 1) hb6
  refine hK.out _ _ (fun _ => KEEP.out _ hk6) (fun hHeld => ?_); replace hHeld := hHeld rfl
  clear hK K
  try simp only [Act.put, List.setIfInBounds_toArray, List.set_cons_zero, List.set_cons_succ]
  refine anyE_take 1 (v := ?_) rfl (by kernel_rfl) (fun _ _ _ h => h) (by rfl) ?hy1r hHeld ?rest1r
  case hy1r => (intro w hSw; (try dsimp only at hSw); go_simp; try with_reducible rfl)
  try simp only [Act.put, List.setIfInBounds_toArray, List.set_cons_zero, List.set_cons_succ]
  refine anyE_take 2 (v := ?_) rfl (by kernel_rfl) (fun _ _ _ h => h) (by rfl) ?hy2r hHeld ?rest2r
  case hy2r => (intro w hSw; (try dsimp only at hSw); go_simp; try with_reducible rfl)
  try simp only [Act.put, List.setIfInBounds_toArray, List.set_cons_zero, List.set_cons_succ]
  refine anyE_take 4 (v := ?_) rfl (by kernel_rfl) (fun _ _ _ h => h) (by rfl) ?hy4r hHeld ?rest4r
  case hy4r => (intro w hSw; (try dsimp only at hSw); go_simp; try with_reducible rfl)
  try simp only [Act.put, List.setIfInBounds_toArray, List.set_cons_zero, List.set_cons_succ]
  refine anyE_one 3 rfl (by kernel_rfl) (fun K hK => ?_)
  go_simp; go_at_call 40; refine (check_gen (hm.ext hk6) HC.out.symm).mono ?_; rintro _ w7 ⟨_, rfl, hb7, rfl⟩; have hk7 : Below w5.heap.size w5 w7 := ext_trans hk6 hb7
  refine hK.out _ _ (fun _ => KEEP.out _ hk7) (fun hHeld => ?_); replace hHeld := hHeld rfl
  clear hK K
  try simp only [Act.put, List.setIfInBounds_toArray, List.set_cons_zero, List.set_cons_succ]
  refine anyE_one 5 rfl (by kernel_rfl) (fun K hK => ?_)
  go_simp; go_at_call 33; refine (refCheck_gen (hm.ext hk7) HC.out.symm).mono ?_; rintro _ w8 ⟨_, rfl, hb8, rfl⟩; have hk8 : Below w5.heap.size w5 w8 := ext_trans hk7 hb8
  refine hK.out _ _ (fun _ => KEEP.out _ hk8) (fun hHeld => ?_); replace hHeld := hHeld rfl
  clear hK K
  try simp only [Act.put, List.setIfInBounds_toArray, List.set_cons_zero, List.set_cons_succ]
  refine anyE_take 6 (v := ?_) rfl (by kernel_rfl) (fun _ _ _ h => h) (by rfl) ?hy6r hHeld ?rest6r
  case hy6r => (intro w hSw; (try dsimp only at hSw); go_simp; try with_reducible rfl)
  try simp only [Act.put, List.setIfInBounds_toArray, List.set_cons_zero, List.set_cons_succ]
  refine anyE_take 7 (v := ?_) rfl (by kernel_rfl) (fun _ _ _ h => h) (by rfl) ?hy7r hHeld ?rest7r
  case hy7r => (intro w hSw; (try dsimp only at hSw); go_simp; try with_reducible rfl)
  try simp only [Act.put, List.setIfInBounds_toArray, List.set_cons_zero, List.set_cons_succ]
  refine anyE_take 8 (v := ?_) rfl (by kernel_rfl) (fun _ _ _ h => h) (by rfl) ?hy8r hHeld ?rest8r
  case hy8r => (intro w hSw; (try dsimp only at hSw); go_simp; try with_reducible rfl)
  try simp only [Act.put, List.setIfInBounds_toArray, List.set_cons_zero, List.set_cons_succ]
  refine anyE_take 9 (v := ?_) rfl (by kernel_rfl) (fun _ _ _ h => h) (by rfl) ?hy9r hHeld ?rest9r
  case hy9r => (intro w hSw; (try dsimp only at hSw); go_simp; try with_reducible rfl)
  try simp only [Act.put, List.setIfInBounds_toArray, List.set_cons_zero, List.set_cons_succ]
  refine anyE_take 10 (v := ?_) rfl (by kernel_rfl) (fun _ _ _ h => h) (by rfl) ?hy10r hHeld ?rest10r
  case hy10r => (intro w hSw; (try dsimp only at hSw); go_simp; try with_reducible rfl)
  try simp only [Act.put, List.setIfInBounds_toArray, List.set_cons_zero, List.set_cons_succ]
  refine anyE_one 11 rfl (by kernel_rfl) (fun K hK => ?_)
  go_simp; go_at_call 22; refine (sameM_lit (ht.ext hk8) (hu.ext hk8) rfl).mono ?_; rintro _ w9 ⟨_, rfl, hb9, rfl⟩; have hk9 : Below w5.heap.size w5 w9 := ext_trans hk8 hb9
  refine hK.out _ _ (fun _ => KEEP.out _ hk9) (fun hHeld => ?_); replace hHeld := hHeld rfl
  clear hK K
  try simp only [Act.put, List.setIfInBounds_toArray, List.set_cons_zero, List.set_cons_succ]
  refine anyE_take 12 (v := ?_) rfl (by kernel_rfl) (fun _ _ _ h => h) (by rfl) ?hy12r hHeld ?rest12r
  case hy12r => (intro w hSw; (try dsimp only at hSw); go_simp; try with_reducible rfl)
  try simp only [Act.put, List.setIfInBounds_toArray, List.set_cons_zero, List.set_cons_succ]
  refine anyE_take 13 (v := ?_) rfl (by kernel_rfl) (fun _ _ _ h => h) (by rfl) ?hy13r hHeld ?rest13r
  case hy13r => (intro w hSw; (try dsimp only at hSw); go_simp; try with_reducible rfl)
  try simp only [Act.put, List.setIfInBounds_toArray, List.set_cons_zero, List.set_cons_succ]
  refine anyE_take 14 (v := ?_) rfl (by kernel_rfl) (fun _ _ _ h => h) (by rfl) ?hy14r hHeld ?rest14r
  case hy14r => (intro w hSw; (try dsimp only at hSw); go_simp; try with_reducible rfl)
  try simp only [Act.put, List.setIfInBounds_toArray, List.set_cons_zero, List.set_cons_succ]
  refine anyE_take 15 (v := ?_) rfl (by kernel_rfl) (fun _ _ _ h => h) (by rfl) ?hy15r hHeld ?rest15r
  case hy15r => (intro w hSw; (try dsimp only at hSw); go_simp; try with_reducible rfl)
  try simp only [Act.put, List.setIfInBounds_toArray, List.set_cons_zero, List.set_cons_succ]
  refine anyE_take 16 (v := ?_) rfl (by kernel_rfl) (fun _ _ _ h => h) (by rfl) ?hy16r hHeld ?rest16r
  case hy16r => (intro w hSw; (try dsimp only at hSw); go_simp; try with_reducible rfl)
  try simp only [Act.put, List.setIfInBounds_toArray, List.set_cons_zero, List.set_cons_succ]
  refine anyE_take 17 (v := ?_) rfl (by kernel_rfl) (fun _ _ _ h => h) (by rfl) ?hy17r hHeld ?rest17r
  case hy17r => (intro w hSw; (try dsimp only at hSw); go_simp; try with_reducible rfl)
  try simp only [Act.put, List.setIfInBounds_toArray, List.set_cons_zero, List.set_cons_succ]
  refine anyE_take 18 (v := ?_) rfl (by kernel_rfl) (fun _ _ _ h => h) (by rfl) ?hy18r hHeld ?rest18r
  case hy18r => (intro w hSw; (try dsimp only at hSw); go_simp; try with_reducible rfl)
  try simp only [Act.put, List.setIfInBounds_toArray, List.set_cons_zero, List.set_cons_succ]
  refine anyE_take 19 (v := ?_) rfl (by kernel_rfl) (fun _ _ _ h => h) (by rfl) ?hy19r hHeld ?rest19r
  case hy19r => (intro w hSw; (try dsimp only at hSw); go_simp; try with_reducible rfl)
  try simp only [Act.put, List.setIfInBounds_toArray, List.set_cons_zero, List.set_cons_succ]
  refine anyE_take 20 (v := ?_) rfl (by kernel_rfl) (fun _ _ _ h => h) (by rfl) ?hy20r hHeld ?rest20r
  case hy20r => (intro w hSw; (try dsimp only at hSw); go_simp; try with_reducible rfl)
  try simp only [Act.put, List.setIfInBounds_toArray, List.set_cons_zero, List.set_cons_succ]
  refine anyE_one 21 rfl (by kernel_rfl) (fun K hK => ?_)
  go_simp; go_at_call 25; refine (equal_lit (hy.ext hk9) (hz.ext hk9) rfl).mono ?_; rintro _ w10 ⟨_, rfl, hb10, rfl⟩; have hk10 : Below w5.heap.size w5 w10 := ext_trans hk9 hb10
  refine hK.out _ _ (fun _ => KEEP.out _ hk10) (fun hHeld => ?_); replace hHeld := hHeld rfl
  clear hK K
  try simp only [Act.put, List.setIfInBounds_toArray, List.set_cons_zero, List.set_cons_succ]
  refine anyE_take 22 (v := ?_) rfl (by kernel_rfl) (fun _ _ _ h => h) (by rfl) ?hy22r hHeld ?rest22r
  case hy22r => (intro w hSw; (try dsimp only at hSw); go_simp; try with_reducible rfl)
  try simp only [Act.put, List.setIfInBounds_toArray, List.set_cons_zero, List.set_cons_succ]
  refine anyE_take 23 (v := ?_) rfl (by kernel_rfl) (fun _ _ _ h => h) (by rfl) ?hy23r hHeld ?rest23r
  case hy23r => (intro w hSw; (try dsimp only at hSw); go_simp; try with_reducible rfl)
  try simp only [Act.put, List.setIfInBounds_toArray, List.set_cons_zero, List.set_cons_succ]
  refine anyE_take 24 (v := ?_) rfl (by kernel_rfl) (fun _ _ _ h => h) (by rfl) ?hy24r hHeld ?rest24r
  case hy24r => (intro w hSw; (try dsimp only at hSw); go_simp; try with_reducible rfl)
  try simp only [Act.put, List.setIfInBounds_toArray, List.set_cons_zero, List.set_cons_succ]
  refine anyE_take 25 (v := ?_) rfl (by kernel_rfl) (fun _ _ _ h => h) (by rfl) ?hy25r hHeld ?rest25r
  case hy25r => (intro w hSw; (try dsimp only at hSw); go_simp; try with_reducible rfl)
  try simp only [Act.put, List.setIfInBounds_toArray, List.set_cons_zero, List.set_cons_succ]
  refine anyE_take 26 (v := ?_) rfl (by kernel_rfl) (fun _ _ _ h => h) (by rfl) ?hy26r hHeld ?rest26r
  case hy26r => (intro w hSw; (try dsimp only at hSw); go_simp; try with_reducible rfl)
  try simp only [Act.put, List.setIfInBounds_toArray, List.set_cons_zero, List.set_cons_succ]
  refine anyE_take 27 (v := ?_) rfl (by kernel_rfl) (fun _ _ _ h => h) (by rfl) ?hy27r hHeld ?rest27r
  case hy27r => (intro w hSw; (try dsimp only at hSw); go_simp; try with_reducible rfl)
  try simp only [Act.put, List.setIfInBounds_toArray, List.set_cons_zero, List.set_cons_succ]
  refine anyE_take 28 (v := ?_) rfl (by kernel_rfl) (fun _ _ _ h => h) (by rfl) ?hy28r hHeld ?rest28r
  case hy28r => (intro w hSw; (try dsimp only at hSw); go_simp; try with_reducible rfl)
  try simp only [Act.put, List.setIfInBounds_toArray, List.set_cons_zero, List.set_cons_succ]
  refine anyE_done (by kernel_rfl) ?_ _
  replace HB := ext_trans HB hk10
  go_wp2
  go_ret
  exact .mk HB rfl
end Go.Proofs.Ytijmjliijjkcbaa
