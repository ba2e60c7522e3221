/- Well-formed clauses; the reference's Assign. Printed by cl41g.py. -/
import Derived.Test.YtifcgcdbebgahaaClF
import Derived.Deep.AppendLies
namespace Go.Proofs.Ytifcgcdbebgahaa
set_option linter.unusedVariables false
open Go.RowKit
attribute [local go_sem ↓] Go.wp_at_zero Go.wp_at_succ

theorem cfrom_zero {n : Int} {l : List Int} : ∀ m k, l.length - k = m → (cfrom n l k = 0 ↔ ∀ j, k ≤ j → j < l.length → goodP n (nth l j) = true ∧ (0 < j → varS (nth l (j - 1)) < varS (nth l j))) := by
  intro m
  induction m with
  | zero =>
    intro k hk
    rw [cfrom_end (by omega)]
    exact ⟨fun _ j h1 h2 => by omega, fun _ => rfl⟩
  | succ m ih =>
    intro k hk
    have hlt : k < l.length := by omega
    have ih := ih (k + 1) (by omega)
    by_cases hs : cstep n l k = 0
    · rw [cfrom_next hlt hs, ih]
      have hk0 : goodP n (nth l k) = true ∧ (0 < k → varS (nth l (k - 1)) < varS (nth l k)) := by
        unfold cstep at hs
        split at hs
        · omega
        · split at hs
          · omega
          · rename_i h1 h2
            exact ⟨by simpa using h1, fun h => by omega⟩
      constructor
      · intro h j h1 h2
        rcases Nat.lt_or_ge k j with h3 | h3
        · exact h j (by omega) h2
        · obtain rfl : j = k := by omega
          exact hk0
      · intro h j h1 h2
        exact h j (by omega) h2
    · rw [cfrom_err hlt rfl hs]
      refine ⟨fun h => absurd h hs, fun h => ?_⟩
      have := h k (Nat.le_refl _) hlt
      unfold cstep
      rw [if_neg (by rw [this.1]; simp), if_neg (by omega)]
theorem clauseE_zero {n : Int} {l : List Int} : clauseE n l = 0 ↔ ∀ j, j < l.length → goodP n (nth l j) = true ∧ (0 < j → varS (nth l (j - 1)) < varS (nth l j)) := by
  unfold clauseE
  rw [cfrom_zero _ 0 rfl]
  exact ⟨fun h j hj => h j (Nat.zero_le _) hj, fun h j _ hj => h j hj⟩
theorem good_var {n x : Int} (hn : n ≤ 100000) (h : goodP n x = true) : 1 ≤ varS x ∧ varS x ≤ n := by
  have := goodP_iff.1 h
  rw [varS_small (by omega)]
  split <;> omega
theorem clause_length {n : Int} {l : List Int} (hn : 0 ≤ n ∧ n ≤ 100000) (h : clauseE n l = 0) : (l.length : Int) ≤ n := by
  rw [clauseE_zero] at h
  have key : ∀ j, j < l.length → (j : Int) + 1 ≤ varS (nth l j) := by
    intro j
    induction j with
    | zero => intro hj; have := good_var hn.2 (h 0 hj).1; omega
    | succ j ih =>
      intro hj
      have h1 := ih (by omega)
      have h2 := (h (j + 1) hj).2 (by omega)
      rw [Nat.add_sub_cancel] at h2
      omega
  by_cases h0 : l.length = 0
  · omega
  · have h1 := key (l.length - 1) (by omega)
    have h2 := good_var hn.2 (h (l.length - 1) (by omega)).1
    omega
theorem firstE_zero {f : List Int → Int} {l : List (List Int)} : ∀ m k, l.length - k = m → (firstE f l k = 0 ↔ ∀ j, k ≤ j → j < l.length → f (nthL l j) = 0) := by
  intro m
  induction m with
  | zero => intro k hk; rw [firstE_end (by omega)]; exact ⟨fun _ j h1 h2 => by omega, fun _ => rfl⟩
  | succ m ih =>
    intro k hk
    have hlt : k < l.length := by omega
    by_cases hs : f (nthL l k) = 0
    · rw [firstE_next hlt hs, ih (k + 1) (by omega)]
      constructor
      · intro h j h1 h2
        rcases Nat.lt_or_ge k j with h3 | h3
        · exact h j (by omega) h2
        · obtain rfl : j = k := by omega
          exact hs
      · intro h j h1 h2; exact h j (by omega) h2
    · rw [firstE_err hlt rfl hs]
      exact ⟨fun h => absurd h hs, fun h => absurd (h k (Nat.le_refl _) hlt) hs⟩
/-- Well-formed clauses. -/
structure COk (m : Mx) : Prop where
  c0 : 0 ≤ m.cols
  c1 : m.cols ≤ 4096
  r1 : m.rows.length ≤ 32768
  cl : ∀ r ∈ m.rows, clauseE m.cols r = 0
theorem checkC_ok {m : Mx} : checkC m = 0 ↔ COk m := by
  constructor
  · intro h
    have hs := checkC_zero h
    have := sizesS_zero.1 hs
    refine ⟨this.1.1, this.1.2, this.2, fun r hr => ?_⟩
    unfold checkC at h
    rw [if_neg (by simp [hs]), firstE_zero _ 0 rfl] at h
    obtain ⟨j, hj, rfl⟩ := List.getElem_of_mem hr
    have := h j (Nat.zero_le _) hj
    rwa [nthL_eq hj] at this
  · intro h
    have hs : sizesS m = 0 := sizesS_zero.2 ⟨⟨h.c0, h.c1⟩, h.r1⟩
    unfold checkC
    rw [if_neg (by simp [hs]), firstE_zero _ 0 rfl]
    exact fun j _ hj => h.cl _ (nthL_mem hj)
theorem COk.len {m : Mx} (h : COk m) {r : List Int} (hr : r ∈ m.rows) : r.length ≤ 4096 := by
  have h1 := h.c1
  have := clause_length ⟨h.c0, by omega⟩ (h.cl r hr)
  omega

def assignP (l : List (List Int)) (lits : List Int) : List (List Int) := (l.filter fun c => !trueP c lits).map fun c => withoutP c lits
theorem assign_succ {l : List (List Int)} {lits : List Int} {k : Nat} (hk : k < l.length) : assignP (l.take (k + 1)) lits = assignP (l.take k) lits ++ (if trueP (nthL l k) lits = true then [] else [withoutP (nthL l k) lits]) := by
  unfold assignP
  rw [take_nthL hk, List.filter_append, List.map_append, List.filter_cons]
  cases trueP (nthL l k) lits <;> simp
theorem assign_length (l : List (List Int)) (lits : List Int) : (assignP l lits).length ≤ l.length := by unfold assignP; rw [List.length_map]; exact List.length_filter_le _ _
def assignS (m : Mx) (lits : List Int) : Mx × Int := if checkC m ≠ 0 then (⟨0, []⟩, checkC m) else if assignE m.cols lits ≠ 0 then (⟨0, []⟩, assignE m.cols lits) else (⟨m.cols, assignP m.rows lits⟩, 0)
theorem assignS_err {m : Mx} {x : List Int} (h : checkC m ≠ 0) : assignS m x = (⟨0, []⟩, checkC m) := by unfold assignS; rw [if_pos h]
theorem assignS_vec {m : Mx} {x : List Int} (h : checkC m = 0) (h2 : assignE m.cols x ≠ 0) : assignS m x = (⟨0, []⟩, assignE m.cols x) := by unfold assignS; rw [if_neg (by simp [h]), if_pos h2]
theorem assignS_ok {m : Mx} {x : List Int} (h : checkC m = 0) (h2 : assignE m.cols x = 0) : assignS m x = (⟨m.cols, assignP m.rows x⟩, 0) := by unfold assignS; rw [if_neg (by simp [h]), if_neg (by simp [h2])]

set_option maxRecDepth 100000 in
set_option maxHeartbeats 4000000 in
theorem refAssign_calls {S S' : Nat → Prop} {w : World} {va vb : Value} {m : Mx} {lits : List Int} (ha : MatV S w va m) (hx : Ints S' w vb lits) :
    Calls Try.prog 16 #[va, vb] w (Post w (RetM w.heap.size (assignS m lits))) := by
  obtain ⟨ac, al⟩ := m
  obtain ⟨ra, rfl, la⟩ := ha
  obtain ⟨aa, acap, rfl, aad, al1, alm⟩ := la.form
  obtain ⟨ab, nb, rfl, _⟩ := hx.form
  dsimp only at la al1 aad ⊢
  unfold maxLen at alm
  obtain ⟨i0, hi, hz0, hz1, hz2⟩ := info_parts info_ints
  have HQA := Lib.hid (idx_one Try.underlying22 hi hz1 aad)
  have HXX := Lib.hid hx
  have ex : Below w.heap.size w ((w.alloc (.cells #[.int .i64 ac, .slice aa al.length acap] 24)).alloc (.cells #[.int .i64 0, .slice none 0 0] 24)) := ext_alloc' (ext_alloc w _) _
  have r0 := (row_new w [.int .i64 ac, .slice aa al.length acap] 24).alloc (.cells #[.int .i64 0, .slice none 0 0] 24)
  have r2 := row_new (w.alloc (.cells #[.int .i64 ac, .slice aa al.length acap] 24)) [.int .i64 0, .slice none 0 0] 24
  simp only [World.size_alloc] at r2
  have KC := Lib.hid (refCheck_calls (v := .agg #[.int .i64 ac, .slice aa al.length acap]) (m := ⟨ac, al⟩) ⟨_, rfl, la.ext ex⟩)
  obtain ⟨c1, hc1⟩ : ∃ c1, c1 = checkC ⟨ac, al⟩ := ⟨_, rfl⟩
  rw [← hc1] at KC
  have HC1 := Lib.hid hc1
  clear hc1 hx
  go_enter Try.func16, Try.ntmps16
  go_wp2_with fail
  refine KC.out.mono ?_
  rintro _ w1 ⟨_, rfl, hb1, rfl⟩
  have hx1 := ext_trans ex hb1
  have R0 := r0.ext hb1
  have R2 := r2.ext hb1
  clear KC r0 r2 ex
  obtain ⟨q00, q01⟩ := R0.two
  obtain ⟨q20, q21⟩ := R2.two
  have f20 := R2.free 0
  have f21 := R2.free 1
  have z2 := R2.lt
  by_cases h1 : ¬ c1 = 0
  · have e1 : (c1 != 0) = true := by simp [h1]
    have RR := Lib.hid (assignS_err (m := ⟨ac, al⟩) (x := lits) (HC1.out ▸ h1))
    rw [← HC1.out] at RR
    clear h1
    go_wp2
    refine bodyPost_ret (v := .tuple #[.agg #[.int .i64 0, .slice none 0 0], .int .i64 c1]) (by simp [results, Try.results16, go_sem, q20, q21, f20, f21]) rfl ?_
    exact .mk (set2_below _ _ hx1 (by omega)) (.none RR.out)
  have h1 := Classical.not_not.1 h1
  have e1 : (c1 != 0) = false := by simp [h1]
  have H1 : Hid (checkC ⟨ac, al⟩ = 0) := Lib.hid (HC1.out.symm.trans h1)
  have OK := Lib.hid (checkC_ok.1 H1.out)
  have hac0 : 0 ≤ ac := OK.out.c0
  have hac1 : ac ≤ 4096 := OK.out.c1
  have hal : al.length ≤ 32768 := OK.out.r1
  obtain ⟨c2, hc2⟩ : ∃ c2, c2 = assignE ac lits := ⟨_, rfl⟩
  have KV := Lib.hid ((refAssignment_quiet (HXX.out.ext hx1) (n := ac) ⟨hac0, by omega⟩).mono fun _ _ h => h.post)
  rw [← hc2] at KV
  have HC2 := Lib.hid hc2
  clear h1 hc2
  go_wp2_with fail
  refine KV.out.mono ?_
  rintro _ w2 ⟨_, rfl, hb2, rfl⟩
  have hx2 := ext_trans hx1 hb2
  have R0 := R0.ext hb2
  have R2 := R2.ext hb2
  clear KV q00 q01 q20 q21 f20 f21 z2 hb1 hb2 hx1
  obtain ⟨q00, q01⟩ := R0.two
  obtain ⟨q20, q21⟩ := R2.two
  have f20 := R2.free 0
  have f21 := R2.free 1
  have z2 := R2.lt
  by_cases h2 : ¬ c2 = 0
  · have e2 : (c2 != 0) = true := by simp [h2]
    have RR := Lib.hid (assignS_vec (m := ⟨ac, al⟩) H1.out (HC2.out ▸ h2))
    dsimp only at RR
    rw [← HC2.out] at RR
    clear h2
    go_wp2
    refine bodyPost_ret (v := .tuple #[.agg #[.int .i64 0, .slice none 0 0], .int .i64 c2]) (by simp [results, Try.results16, go_sem, q20, q21, f20, f21]) rfl ?_
    exact .mk (set2_below _ _ hx2 (by omega)) (.none RR.out)
  have h2 := Classical.not_not.1 h2
  have e2 : (c2 != 0) = false := by simp [h2]
  have RR := Lib.hid (assignS_ok (m := ⟨ac, al⟩) H1.out (HC2.out.symm.trans h2))
  dsimp only at RR
  clear h2
  have R3 := row_new w2 [.int .i64 ac, .slice none 0 0] 24
  have R0 := R0.alloc (.cells #[.int .i64 ac, .slice none 0 0] 24)
  have R2 := R2.alloc (.cells #[.int .i64 ac, .slice none 0 0] 24)
  have hx3 := ext_alloc' hx2 (.cells #[.int .i64 ac, .slice none 0 0] 24)
  go_wp2
  obtain ⟨OB, hOB⟩ : ∃ OB, OB = w2.heap.size := ⟨_, rfl⟩
  rw [← hOB] at R3 ⊢
  obtain ⟨w3, hw3⟩ : ∃ w3, w3 = w2.alloc (.cells #[.int .i64 ac, .slice none 0 0] 24) := ⟨_, rfl⟩
  rw [← hw3] at R0 R2 R3 hx3 ⊢
  have hz3 : OB + 1 ≤ w3.heap.size := by rw [hw3, hOB]; simp
  have zOB : w.heap.size + 1 < OB := by omega
  clear q00 q01 q20 q21 f20 f21 z2 hOB hw3 hx2
  go_loopw [9] (fun i wr => ∃ (k : Nat) (rv : Value) (vs : List Value), k ≤ al.length ∧ i = .int .i64 k ∧ Below w.heap.size w wr ∧ OB + 1 ≤ wr.heap.size ∧ Row wr w.heap.size 24 [.int .i64 ac, .slice aa al.length acap] ∧ Row wr (w.heap.size + 1) 24 [.int .i64 0, .slice none 0 0] ∧ Row wr OB 24 [.int .i64 ac, rv] ∧ OwnList 25 (OB + 1) wr rv vs (assignP (al.take k) lits)) (fun i _ => al.length - (intOf i).toNat)
  case atStart => exact ⟨0, _, _, Nat.zero_le _, rfl, hx3, hz3, R0, R2, R3, .nil _ _ _⟩
  case round =>
    clear R0 R2 R3 hx3 hz3
    obtain ⟨k, rv, vs, hk, rfl, hb, hzr, R0, R2, R3, hO⟩ := hrel
    obtain ⟨q00, q01⟩ := R0.two
    by_cases hlt : k < al.length
    · have qa := HQA.out k hlt
      obtain ⟨u, cu, iu⟩ := la.at hb hlt
      have HT := Lib.hid (assign_succ (lits := lits) hlt)
      have hrl := OK.out.len (nthL_mem hlt)
      have hal2 := assign_length (al.take k) lits
      have htl := List.length_take_le k al
      obtain ⟨c, hc⟩ : ∃ c, c = nthL al k := ⟨_, rfl⟩
      rw [← hc] at iu HT hrl
      obtain ⟨au, cu2, rfl, _⟩ := iu.form
      have KT := Lib.hid ((refTrue_quiet iu (HXX.out.ext hb)).mono fun _ _ h => h.post)
      obtain ⟨tb, htb⟩ : ∃ tb, tb = trueP c lits := ⟨_, rfl⟩
      rw [← htb] at KT HT
      obtain ⟨ll, hll⟩ : ∃ ll, ll = assignP (al.take k) lits := ⟨_, rfl⟩
      rw [← hll] at hO HT hal2
      have HI := Lib.hid iu
      have HO := Lib.hid hO
      have hln : ll.length ≤ 32768 := by omega
      clear hc htb hll iu hO
      go_wp2_with fail
      refine KT.out.mono ?_
      rintro _ w2 ⟨_, rfl, hb2, rfl⟩
      have hbw := ext_trans hb hb2
      have hzr := Nat.le_trans hzr hb2.size
      have R0 := R0.ext hb2
      have R2 := R2.ext hb2
      have R3 := R3.ext hb2
      have hO := HO.out.ext hb2
      have cu := cell_ext cu hb2
      cases tb with
      | true =>
        rw [if_pos rfl, List.append_nil] at HT
        rw [← HT.out] at hO
        have HO2 := Lib.hid hO
        clear hO q00 q01
        go_wp2
        go_roundw
        case rel => exact ⟨k + 1, _, _, by omega, by go_num, hbw, hzr, R0, R2, R3, HO2.out⟩
        case measure => simp [intOf]; omega
      | false =>
        rw [if_neg (by simp)] at HT
        obtain ⟨x, hx⟩ : ∃ x, x = withoutP c lits := ⟨_, rfl⟩
        rw [← hx] at HT
        have HS : Hid (∀ W, Below w2.heap.size w2 W → Calls Try.prog 26 #[.slice au c.length cu2, .slice ab lits.length nb] W (Post W fun w' r => Ints (fun b => W.heap.size ≤ b) w' r x)) := Lib.hid (fun W hW => by rw [hx]; exact refWithout_calls ((HI.out.ext hb2).ext hW) ((HXX.out.ext hbw).ext hW) (by omega))
        have HX := Lib.hid hx
        obtain ⟨q30, q31⟩ := R3.two
        obtain ⟨p00, p01⟩ := R0.two
        clear hx q00 q01
        have B1 := Lib.hid (show ll.length + 1 ≤ maxLen by unfold maxLen; omega)
        have B2 := Lib.hid (show (ll.length + 1) * 24 ≤ 140737488355328 by omega)
        have zR3 := R3.lt
        have HNE := Lib.hid (show rv.ownBlock ≠ some OB from fun h => by have := (hO.row.lt _ h).1; omega)
        have hAa := adr_block aad hlt
        have hbs := hbw.size
        have HOWN : Hid (∀ b, b < OB + 1 → rv.ownBlock ≠ some b) := Lib.hid (fun b hb h => by have := (hO.row.lt _ h).1; omega)
        have KEEP : Hid (∀ W', Agree (fun b => b < OB + 1) w2 W' → (fun w' : World => w'.cell? ⟨w.heap.size, 1, none⟩ = some (.slice aa al.length acap) ∧ w'.cell? (adr aa k) = some (.slice au c.length cu2) ∧ w'.cell? ⟨OB, 1, none⟩ = some rv) W') := Lib.hid (fun W' hW' => ⟨cell_agree p01 hW' (show _ < _ by simp; omega), cell_agree cu hW' (show _ < _ by omega), cell_agree q31 hW' (show _ < _ by simp)⟩)
        have hA0 : Agree (fun b => b < OB + 1) w2 w2 := .refl _ _
        go_wp2
        refine region_E (fun w' : World => w'.cell? ⟨w.heap.size, 1, none⟩ = some (.slice aa al.length acap) ∧ w'.cell? (adr aa k) = some (.slice au c.length cu2) ∧ w'.cell? ⟨OB, 1, none⟩ = some rv) (fun i => i == 12) (by kernel_rfl) ?_ (fun hHeld => ?_)
        · exact KEEP.out _ hA0.drew
        refine anyE_take 0 (v := ?_) rfl (by kernel_rfl) (fun _ _ _ h => h) (by rfl) ?hy0 hHeld ?rest0
        case hy0 => (intro w hSw; (try dsimp only at hSw); go_simp; try with_reducible rfl)
        try simp only [Act.put, List.setIfInBounds_toArray, List.set_cons_zero, List.set_cons_succ]
        refine anyE_take 1 (v := ?_) rfl (by kernel_rfl) (fun _ _ _ h => h) (by rfl) ?hy1 hHeld ?rest1
        case hy1 => (intro w hSw; (try dsimp only at hSw); go_simp; try with_reducible rfl)
        try simp only [Act.put, List.setIfInBounds_toArray, List.set_cons_zero, List.set_cons_succ]
        refine anyE_take 2 (v := ?_) rfl (by kernel_rfl) (fun _ _ _ h => h) (by rfl) ?hy2 hHeld ?rest2
        case hy2 => (intro w hSw; (try dsimp only at hSw); go_simp; try with_reducible rfl)
        try simp only [Act.put, List.setIfInBounds_toArray, List.set_cons_zero, List.set_cons_succ]
        refine anyE_take 3 (v := ?_) rfl (by kernel_rfl) (fun _ _ _ h => h) (by rfl) ?hy3 hHeld ?rest3
        case hy3 => (intro w hSw; (try dsimp only at hSw); go_simp; try with_reducible rfl)
        try simp only [Act.put, List.setIfInBounds_toArray, List.set_cons_zero, List.set_cons_succ]
        refine anyE_take 4 (v := ?_) rfl (by kernel_rfl) (fun _ _ _ h => h) (by rfl) ?hy4 hHeld ?rest4
        case hy4 => (intro w hSw; (try dsimp only at hSw); go_simp; try with_reducible rfl)
        try simp only [Act.put, List.setIfInBounds_toArray, List.set_cons_zero, List.set_cons_succ]
        refine anyE_take 5 (v := ?_) rfl (by kernel_rfl) (fun _ _ _ h => h) (by rfl) ?hy5 hHeld ?rest5
        case hy5 => (intro w hSw; (try dsimp only at hSw); go_simp; try with_reducible rfl)
        try simp only [Act.put, List.setIfInBounds_toArray, List.set_cons_zero, List.set_cons_succ]
        refine anyE_take 6 (v := ?_) rfl (by kernel_rfl) (fun _ _ _ h => h) (by rfl) ?hy6 hHeld ?rest6
        case hy6 => (intro w hSw; (try dsimp only at hSw); go_simp; try with_reducible rfl)
        try simp only [Act.put, List.setIfInBounds_toArray, List.set_cons_zero, List.set_cons_succ]
        refine anyE_take 7 (v := ?_) rfl (by kernel_rfl) (fun _ _ _ h => h) (by rfl) ?hy7 hHeld ?rest7
        case hy7 => (intro w hSw; (try dsimp only at hSw); go_simp; try with_reducible rfl)
        try simp only [Act.put, List.setIfInBounds_toArray, List.set_cons_zero, List.set_cons_succ]
        refine anyE_one 8 rfl (by kernel_rfl) (fun K hK => ?_)
        go_simp; go_at_call 26; refine (HS.out _ (drewN_below _ _ 1)).mono ?_; rintro _ w5 ⟨v5, rfl, hb5, hx5⟩; obtain ⟨a5, c5, rfl, _⟩ := hx5.form; have hbb : Below w2.heap.size w2 w5 := ext_trans (drewN_below _ _ 1) hb5; have OWN5 := Lib.hid (owns_ext hO.row hbb); have hl5 : OB < w5.heap.size := Nat.le_trans hzr hbb.size; have hA5 : Agree (fun b => b < OB + 1) w2 w5 := .of_ext hbb
        refine hK.out _ _ (fun _ => KEEP.out _ hA5) (fun hHeld => ?_); replace hHeld := hHeld rfl
        clear hK K
        try simp only [Act.put, List.setIfInBounds_toArray, List.set_cons_zero, List.set_cons_succ]
        refine anyE_one 9 rfl (by kernel_rfl) (fun K hK => ?_)
        go_simp
        refine hK.out _ _ (fun _ => KEEP.out _ (hA5.alloc _)) (fun hHeld => ?_); replace hHeld := hHeld rfl
        clear hK K
        try simp only [Act.put, List.setIfInBounds_toArray, List.set_cons_zero, List.set_cons_succ]
        refine anyE_one 10 rfl (by kernel_rfl) (fun K hK => ?_)
        (refine step_append_lies _ (by rfl) _ _ _ (by rfl) (OB + 1) 25 i0 _ 1 24 Try.underlying22 hi hz0 hz1 hz2 rfl (by decide) rv ll.length vs (by rfl) (OWN5.out.alloc _) ⟨w5.heap.size, 0, none⟩ 1 1 [.slice a5 x.length c5] (by rfl) (by rfl) (World.news_of_block (cs := #[.slice a5 x.length c5]) (t := 25) (fr := (0, 0)) (heap_alloc_new w5 _)) (by simp [Value.oneCell']) (by decide) B1.out B2.out (by simp; omega) (w5.heap.size + 1) (by simp) ?_; intro g6 cp6 w6 hown6 hgrow6 hat6 hlt6; have R6 := (((R3.ext hbb).alloc (.cells #[.slice a5 x.length c5] 25))).grown hgrow6 HNE.out; have f6 := R6.free 1; have c6 := R6.cell (j := 1) rfl)
        refine hK.out _ _ (fun _ => KEEP.out _ ((hA5.alloc _).trans (.of_grown hgrow6 HOWN.out))) (fun hHeld => ?_); replace hHeld := hHeld rfl
        clear hK K
        try simp only [Act.put, List.setIfInBounds_toArray, List.set_cons_zero, List.set_cons_succ]
        refine anyE_take 11 (v := ?_) rfl (by kernel_rfl) (fun _ _ _ h => h) (by rfl) ?hy11 hHeld ?rest11
        case hy11 => (intro w hSw; (try dsimp only at hSw); go_simp; try with_reducible rfl)
        try simp only [Act.put, List.setIfInBounds_toArray, List.set_cons_zero, List.set_cons_succ]
        refine anyE_one 12 rfl (by kernel_rfl) (fun K hK => ?_)
        go_simp
        refine hK.out _ _ (fun h => by simp at h) (fun hHeld => ?_)
        clear hK K
        try simp only [Act.put, List.setIfInBounds_toArray, List.set_cons_zero, List.set_cons_succ]
        refine anyE_done (by kernel_rfl) ?_ _
        have hrs := hbb.size
        have HP := out_push (T := 24) (OB := OB) (B := OB + 1) (by omega) hzr R3 hO hbb (hx5.mono fun b hb => hb) (by first | exact ext_alloc _ _ | exact (ext_alloc _ _).drew) hown6 hgrow6 (hat6.imp id fun h => by omega)
        obtain ⟨P3, PO, PA, PB⟩ := HP
        have PB0 := PB w.heap.size (by omega)
        have P0 := R0.agreeN PA (by omega) (by omega)
        have P2 := R2.agreeN PA (by omega) (by omega)
        have hsz := PA.size
        rw [← HT.out] at PO
        have PO := Lib.hid PO
        clear PA PB
        go_wp2
        go_roundw
        case rel => exact ⟨k + 1, _, _, by omega, by go_num, hbw.trans PB0, by omega, P0, P2, P3, PO.out⟩
        case measure => simp [intOf]; omega
    · obtain rfl : k = al.length := by omega
      rw [List.take_length] at hO
      have hL := hO.lists
      obtain ⟨a9, c9, rfl, _⟩ := hL.form
      obtain ⟨q30, q31⟩ := R3.two
      obtain ⟨q20, q21⟩ := R2.two
      have f20 := R2.free 0
      have f21 := R2.free 1
      have HL := Lib.hid hL
      clear hO hL
      go_wp2
      refine bodyPost_ret (v := .tuple #[.agg #[.int .i64 ac, .slice a9 (assignP al lits).length c9], .int .i64 0]) (by simp [results, Try.results16, go_sem, q20, q21, f20, f21]) rfl ?_
      exact .mk (set2_below _ _ hb (by omega)) (.mk RR.out ((HL.out.agree (set2_agree _ _ (by omega))).mono fun b hb => by omega))
end Go.Proofs.Ytifcgcdbebgahaa
