/- Eval and Truth, on both sides. -/
import Derived.Test.YthogcbffnbhalaaDoorExEv2
import Derived.Laws.EntriesVeiled
namespace Go.Proofs.YthogcbffnbhalaaDoor
set_option linter.unusedVariables false
open Go.RowKit

/-- The value reads as the scene. -/
def ScV (S : Nat → Prop) (W : World) (s : Sc) (v : Value) : Prop :=
  ∃ iv ov vv h0 h1 h2 h3 h4, v = scAgg s.n iv ov h0 h1 h2 h3 h4 vv ∧ s.hears = [h0, h1, h2, h3, h4] ∧ Ints S W iv s.inl ∧ Ints S W ov s.outl ∧ Ints S W vv s.vars
theorem ScV.ext {S : Nat → Prop} {W W1 : World} {s : Sc} {v : Value} (h : ScV S W s v) (hb : Below W.heap.size W W1) : ScV S W1 s v := by
  obtain ⟨iv, ov, vv, h0, h1, h2, h3, h4, e, hh, a, b, c⟩ := h
  exact ⟨iv, ov, vv, h0, h1, h2, h3, h4, e, hh, a.ext hb, b.ext hb, c.ext hb⟩
theorem ScV.mono {S S' : Nat → Prop} {W : World} {s : Sc} {v : Value} (h : ScV S W s v) (hS : ∀ b, S b → S' b) : ScV S' W s v := by
  obtain ⟨iv, ov, vv, h0, h1, h2, h3, h4, e, hh, a, b, c⟩ := h
  exact ⟨iv, ov, vv, h0, h1, h2, h3, h4, e, hh, a.mono hS, b.mono hS, c.mono hS⟩
def rangedB (l : List Int) : Bool := l.all small
def scBad (s : Sc) : Bool := decide (s.n < 1) || decide (5 < s.n) || !rangedB s.inl || !rangedB s.outl || !rangedB s.vars
/-- The value and the number of the error. -/
def evalE (s : Sc) (e : Ex) : Int × Int :=
  if checkE e s.vars.length ≠ 0 then (0, checkE e s.vars.length) else if scBad s = true then (0, 2) else (valE s e s.vars, 0)
def truthE (s : Sc) (e : Ex) : Bool := decide ((evalE s e).2 = 0) && decide (kindOf e.op = 1) && decide ((evalE s e).1 = 1)

theorem tup_eq {a b c d : Int} (h1 : a = c) (h2 : b = d) : Value.tuple #[.int .i64 a, .int .i64 b] = Value.tuple #[.int .i64 c, .int .i64 d] := by rw [h1, h2]
theorem evalE_bad {s : Sc} {e : Ex} (h : checkE e s.vars.length = 0) (h2 : scBad s = true) : 0 = (evalE s e).1 ∧ 2 = (evalE s e).2 := by unfold evalE; rw [if_neg (by simp [h]), if_pos h2]; exact ⟨rfl, rfl⟩
theorem evalE_err {s : Sc} {e : Ex} (h : checkE e s.vars.length ≠ 0) : 0 = (evalE s e).1 ∧ checkE e s.vars.length = (evalE s e).2 := by unfold evalE; rw [if_pos h]; exact ⟨rfl, rfl⟩
theorem evalE_ok {s : Sc} {e : Ex} (h : checkE e s.vars.length = 0) (h2 : scBad s = false) : valE s e s.vars = (evalE s e).1 ∧ 0 = (evalE s e).2 := by unfold evalE; rw [if_neg (by simp [h]), if_neg (by simp [h2])]; exact ⟨rfl, rfl⟩
theorem ranged_mem {l : List Int} (h : rangedB l = true) : ∀ x ∈ l, small x = true := by simpa [rangedB] using h
theorem scOk_of {s : Sc} (h : scBad s = false) (hl : s.hears.length = 5) : ScOk s := by
  unfold scBad at h
  simp only [Bool.or_eq_false_iff, Bool.not_eq_false', decide_eq_false_iff_not] at h
  obtain ⟨⟨⟨⟨a, b⟩, c⟩, d⟩, e⟩ := h
  exact ⟨by omega, by omega, ranged_mem c, ranged_mem d, hl⟩

set_option maxRecDepth 100000 in
set_option maxHeartbeats 1000000 in
theorem ranged_quiet {S : Nat → Prop} {w : World} {v : Value} {l : List Int} (h : Ints S w v l) :
    Calls Tryd.prog 32 #[v] w (QuietP w (.bool (rangedB l))) := by
  obtain ⟨a, cap, rfl, ha, hl, hm, hc, _⟩ := h
  unfold maxLen at hm
  obtain ⟨i0, hi, hz0, hz1, hz2⟩ := info_parts info_int
  have hix := idx_one Tryd.underlying25 hi hz1 ha
  go_enter Tryd.func32, Tryd.ntmps32
  go_wp2
  go_loop [3] (fun i => ∃ k : Nat, k ≤ l.length ∧ i = .int .i64 k ∧ rangedB (l.take k) = true) (fun i => l.length - (intOf i).toNat)
  case atStart => exact ⟨0, by omega, rfl, rfl⟩
  case round =>
    obtain ⟨k, hk, rfl, hr⟩ := hrel
    have HR := Lib.hid hr
    clear hr
    by_cases hlt : k < l.length
    · have q := hix k hlt
      have c0 := hc k hlt
      have HT := Lib.hid (show rangedB (l.take (k + 1)) = (rangedB (l.take k) && small (nth l k)) by rw [take_nth hlt]; simp [rangedB])
      have HA := Lib.hid (fun h : small (nth l k) = false => show rangedB l = false by
        unfold rangedB
        rw [List.all_eq_false]
        exact ⟨_, nth_mem hlt, by simp [h]⟩)
      obtain ⟨x, hx⟩ : ∃ x, x = nth l k := ⟨_, rfl⟩
      rw [← hx] at c0 HT HA
      clear hix hc hx
      by_cases h1 : x < -1048576
      · have d1 : decide (x < -1048576) = true := by simpa using h1
        have HS := Lib.hid (show small x = false by unfold small; simp; omega)
        go_wp2
        go_ret
        exact .of (bool_eq (HA.out HS.out).symm) 0
      · have d1 : decide (x < -1048576) = false := by simpa using h1
        by_cases h2 : 1048576 < x
        · have d2 : decide (1048576 < x) = true := by simpa using h2
          have HS := Lib.hid (show small x = false by unfold small; simp; omega)
          go_wp2
          go_ret
          exact .of (bool_eq (HA.out HS.out).symm) 0
        · have d2 : decide (1048576 < x) = false := by simpa using h2
          have HS := Lib.hid (show small x = true by unfold small; simp; omega)
          go_wp2
          go_round
          case rel => exact ⟨k + 1, by omega, by go_num, by rw [HT.out, HR.out, HS.out]; rfl⟩
          case measure => simp [intOf]; omega
    · have HE := Lib.hid (show rangedB l = true by have := HR.out; rwa [List.take_of_length_le (by omega)] at this)
      go_wp2
      go_ret
      exact .of (bool_eq HE.out.symm) 0

theorem wide_quiet (w : World) (x : Int) : Calls Tryd.prog 25 #[.int .i64 x] w (QuietP w (.bool (!small x))) := by
  have H := Lib.hid (small_quiet w x)
  obtain ⟨b, hb⟩ : ∃ b, b = small x := ⟨_, rfl⟩
  rw [← hb] at H ⊢
  clear hb
  cases b
  all_goals
    go_enter Tryd.func25, Tryd.ntmps25
    go_wp2_with fail
    refine H.out.mono ?_
    rintro _ _ ⟨rfl, n, rfl⟩
    go_wp2
    go_ret
    exact .of rfl n

set_option maxRecDepth 100000 in
theorem indexWide_calls {S : Nat → Prop} {w : World} {v : Value} {l : List Int} (h : Ints S w v l) :
    Calls Tryd.prog 41 #[v, .func (.func 25) #[] #[]] w (Post w fun _ r => ∃ n : Int, r = .int .i64 n ∧ decide (0 ≤ n) = !rangedB l) := by
  obtain ⟨a, cap, rfl, ha, hl, hm, hc, _⟩ := h
  unfold maxLen at hm
  obtain ⟨i0, hi, hz0, hz1, hz2⟩ := info_parts info_int
  have hix := idx_one Tryd.underlying25 hi hz1 ha
  clear hi hz0 hz1 hz2
  go_enter Tryd.func41, Tryd.ntmps41
  go_wp2
  go_loopw [8] (fun i wr => ∃ k : Nat, k ≤ l.length ∧ i = .int .i64 k ∧ Below w.heap.size w wr ∧ rangedB (l.take k) = true) (fun i _ => l.length - (intOf i).toNat)
  case atStart => exact ⟨0, by omega, rfl, .refl _ _, rfl⟩
  case round =>
    obtain ⟨k, hk, rfl, hb, hrel⟩ := hrel
    have H := Lib.hid hrel
    clear hrel
    by_cases hlt : k < l.length
    · have q := hix k hlt
      have c0 := cells_at ha hb hc k hlt
      have HT := Lib.hid (show rangedB (l.take (k + 1)) = (rangedB (l.take k) && small (nth l k)) by rw [take_nth hlt]; simp [rangedB])
      have HA := Lib.hid (fun h : small (nth l k) = false => show rangedB l = false by
        unfold rangedB
        rw [List.all_eq_false]
        exact ⟨_, nth_mem hlt, by simp [h]⟩)
      clear hix hc
      go_wp2_with fail
      refine ((wide_quiet _ _).mono fun _ _ h => h.post).mono ?_
      rintro _ w2 ⟨_, rfl, hb2, rfl⟩
      cases hp : small (nth l k) with
      | false =>
        have HP := Lib.hid hp
        clear hp
        go_wp2
        go_ret
        exact .mk (ext_trans hb hb2) ⟨_, rfl, by rw [HA.out HP.out]; simp⟩
      | true =>
        have HP := Lib.hid hp
        clear hp
        go_wp2
        go_roundw
        case rel => exact ⟨k + 1, by omega, by go_num, ext_trans hb hb2, by rw [HT.out, H.out, HP.out]; rfl⟩
        case measure => simp [intOf]; omega
    · have HE := Lib.hid (show rangedB l = true by have := H.out; rwa [List.take_of_length_le (by omega)] at this)
      go_wp2
      go_ret
      exact .mk hb ⟨_, rfl, by rw [HE.out]; decide⟩

set_option maxRecDepth 100000 in
theorem containsWide_calls {S : Nat → Prop} {w : World} {v : Value} {l : List Int} (h : Ints S w v l) :
    Calls Tryd.prog 27 #[v, .func (.func 25) #[] #[]] w (Post w fun _ r => r = .bool (!rangedB l)) := by
  go_enter Tryd.func27, Tryd.ntmps27
  go_wp2_with fail
  refine (indexWide_calls h).mono ?_
  rintro _ w1 ⟨_, rfl, hb1, n, rfl, hn⟩
  have HN := Lib.hid hn
  clear hn
  go_wp2
  go_ret
  exact .mk hb1 (bool_eq HN.out)

set_option maxRecDepth 100000 in
set_option maxHeartbeats 4000000 in
theorem refEval_calls {S S' : Nat → Prop} {w : World} {e : Ex} {v sv : Value} {s : Sc} (h : ExprV S w e v) (hs : ScV S' w s sv) (hsz : sizeE e ≤ 1000) :
    Calls Tryd.prog 10 #[v, sv] w (Post w fun _ r => r = .tuple #[.int .i64 (evalE s e).1, .int .i64 (evalE s e).2]) := by
  obtain ⟨iv, ov, vv, h0, h1, h2, h3, h4, rfl, hh, hi, ho, hv⟩ := hs
  have HI := hi
  have HO := ho
  have HV := hv
  have HE := h
  obtain ⟨ia, icap, rfl, ai, i1, i2, ci, wi⟩ := hi
  obtain ⟨oa, ocap, rfl, ao, o1, o2, co, wo⟩ := ho
  obtain ⟨va, vcap, rfl, av, v1, v2, cv, wv⟩ := hv
  obtain ⟨a, cap, rfl, eo, en, ae, l1, l2⟩ := h.parts
  clear ci co cv
  unfold maxLen at i2 o2 v2
  obtain ⟨R1, hR1⟩ : ∃ x, x = (evalE s e).1 := ⟨_, rfl⟩
  obtain ⟨R2, hR2⟩ : ∃ x, x = (evalE s e).2 := ⟨_, rfl⟩
  rw [← hR1, ← hR2]
  obtain ⟨n, hn⟩ : ∃ n, n = s.n := ⟨_, rfl⟩
  unfold scAgg
  rw [← hn]
  obtain ⟨c, hc⟩ : ∃ c, c = checkE e s.vars.length := ⟨_, rfl⟩
  have HC := Lib.hid hc
  have HN := Lib.hid hn
  have HR1 := Lib.hid hR1
  have HR2 := Lib.hid hR2
  have HH := Lib.hid hh
  clear hR1 hR2 hn hc hh
  have ex1 := ext_alloc' (ext_alloc w (.cells #[.int .i64 e.op, .int .i64 e.num, .slice a e.args.length cap] 24)) (.cells #[.int .i64 n, .slice ia s.inl.length icap, .slice oa s.outl.length ocap, .int .i64 h0, .int .i64 h1, .int .i64 h2, .int .i64 h3, .int .i64 h4, .slice va s.vars.length vcap] 39)
  have r1 := (row_new w [.int .i64 e.op, .int .i64 e.num, .slice a e.args.length cap] 24).alloc (.cells #[.int .i64 n, .slice ia s.inl.length icap, .slice oa s.outl.length ocap, .int .i64 h0, .int .i64 h1, .int .i64 h2, .int .i64 h3, .int .i64 h4, .slice va s.vars.length vcap] 39)
  have r2 := row_new (w.alloc (.cells #[.int .i64 e.op, .int .i64 e.num, .slice a e.args.length cap] 24)) [.int .i64 n, .slice ia s.inl.length icap, .slice oa s.outl.length ocap, .int .i64 h0, .int .i64 h1, .int .i64 h2, .int .i64 h3, .int .i64 h4, .slice va s.vars.length vcap] 39
  rw [World.size_alloc] at r2
  have hlv : (s.vars.length : Int) ≤ 9223372036854775807 := by omega
  have CHK := Lib.hid (refCheck_calls (HE.ext ex1) (by omega) (s.vars.length : Int))
  rw [← HC.out] at CHK
  go_enter Tryd.func10, Tryd.ntmps10
  go_wp2_with fail
  refine CHK.out.mono ?_
  rintro _ w1 ⟨_, rfl, hb1, rfl⟩
  have e1 := ext_trans ex1 hb1
  have r1' := r1.ext hb1
  have r2' := r2.ext hb1
  obtain ⟨x0, x1, x2⟩ := r1'.three
  obtain ⟨s0, s1, s2, s3, s4, s5, s6, s7, s8⟩ := r2'.nine
  by_cases hc0 : c = 0
  · have dc : (c != 0) = false := by simpa using hc0
    have HC0 := Lib.hid hc0
    clear hc0
    by_cases hn1 : n < 1
    · have d1 : decide (n < 1) = true := by simpa using hn1
      have HB := Lib.hid (show scBad s = true by unfold scBad; rw [← HN.out, d1]; simp)
      go_wp2
      go_ret2
      exact .mk e1 (tup_eq (by rw [HR1.out]; exact (evalE_bad (HC.out.symm.trans HC0.out) HB.out).1) (by rw [HR2.out]; exact (evalE_bad (HC.out.symm.trans HC0.out) HB.out).2))
    · have d1 : decide (n < 1) = false := by simpa using hn1
      by_cases hn5 : 5 < n
      · have d2 : decide (5 < n) = true := by simpa using hn5
        have HB := Lib.hid (show scBad s = true by unfold scBad; rw [← HN.out, d2]; simp)
        go_wp2
        go_ret2
        exact .mk e1 (tup_eq (by rw [HR1.out]; exact (evalE_bad (HC.out.symm.trans HC0.out) HB.out).1) (by rw [HR2.out]; exact (evalE_bad (HC.out.symm.trans HC0.out) HB.out).2))
      · have d2 : decide (5 < n) = false := by simpa using hn5
        have RG := Lib.hid ((ranged_quiet (HI.ext e1)).mono fun _ _ h => h.post)
        obtain ⟨b0, hb0'⟩ : ∃ b, b = rangedB s.inl := ⟨_, rfl⟩
        rw [← hb0'] at RG
        have HB0 := Lib.hid hb0'
        clear hb0'
        go_wp2_with fail
        refine RG.out.mono ?_
        rintro _ w2 ⟨_, rfl, hb2, rfl⟩
        have e2 := ext_trans e1 hb2
        clear x0 x1 x2 s0 s1 s2 s3 s4 s5 s6 s7 s8 RG
        obtain ⟨x0, x1, x2⟩ := (r1.ext (ext_trans hb1 hb2)).three
        obtain ⟨s0, s1, s2, s3, s4, s5, s6, s7, s8⟩ := (r2.ext (ext_trans hb1 hb2)).nine
        cases b0 with
        | false =>
          have HB := Lib.hid (show scBad s = true by unfold scBad; rw [← HB0.out]; simp)
          go_wp2
          go_ret2
          exact .mk e2 (tup_eq (by rw [HR1.out]; exact (evalE_bad (HC.out.symm.trans HC0.out) HB.out).1) (by rw [HR2.out]; exact (evalE_bad (HC.out.symm.trans HC0.out) HB.out).2))
        | true =>
          have RG := Lib.hid ((ranged_quiet (HO.ext e2)).mono fun _ _ h => h.post)
          obtain ⟨b1, hb1'⟩ : ∃ b, b = rangedB s.outl := ⟨_, rfl⟩
          rw [← hb1'] at RG
          have HB1 := Lib.hid hb1'
          clear hb1'
          go_wp2_with fail
          refine RG.out.mono ?_
          rintro _ w3 ⟨_, rfl, hb3, rfl⟩
          have e3 := ext_trans e2 hb3
          clear x0 x1 x2 s0 s1 s2 s3 s4 s5 s6 s7 s8 RG
          obtain ⟨x0, x1, x2⟩ := (r1.ext (ext_trans (ext_trans hb1 hb2) hb3)).three
          obtain ⟨s0, s1, s2, s3, s4, s5, s6, s7, s8⟩ := (r2.ext (ext_trans (ext_trans hb1 hb2) hb3)).nine
          cases b1 with
          | false =>
            have HB := Lib.hid (show scBad s = true by unfold scBad; rw [← HB1.out]; simp)
            go_wp2
            go_ret2
            exact .mk e3 (tup_eq (by rw [HR1.out]; exact (evalE_bad (HC.out.symm.trans HC0.out) HB.out).1) (by rw [HR2.out]; exact (evalE_bad (HC.out.symm.trans HC0.out) HB.out).2))
          | true =>
            have RG := Lib.hid ((ranged_quiet (HV.ext e3)).mono fun _ _ h => h.post)
            obtain ⟨b2, hb2'⟩ : ∃ b, b = rangedB s.vars := ⟨_, rfl⟩
            rw [← hb2'] at RG
            have HB2 := Lib.hid hb2'
            clear hb2'
            go_wp2_with fail
            refine RG.out.mono ?_
            rintro _ w4 ⟨_, rfl, hb4, rfl⟩
            have e4 := ext_trans e3 hb4
            clear x0 x1 x2 s0 s1 s2 s3 s4 s5 s6 s7 s8 RG
            obtain ⟨x0, x1, x2⟩ := (r1.ext (ext_trans (ext_trans (ext_trans hb1 hb2) hb3) hb4)).three
            obtain ⟨s0, s1, s2, s3, s4, s5, s6, s7, s8⟩ := (r2.ext (ext_trans (ext_trans (ext_trans hb1 hb2) hb3) hb4)).nine
            cases b2 with
            | false =>
              have HB := Lib.hid (show scBad s = true by unfold scBad; rw [← HB2.out]; simp)
              go_wp2
              go_ret2
              exact .mk e4 (tup_eq (by rw [HR1.out]; exact (evalE_bad (HC.out.symm.trans HC0.out) HB.out).1) (by rw [HR2.out]; exact (evalE_bad (HC.out.symm.trans HC0.out) HB.out).2))
            | true =>
              have HNB := Lib.hid (show scBad s = false by unfold scBad; rw [← HB0.out, ← HB1.out, ← HB2.out, ← HN.out, d1, d2]; rfl)
              have HOK := scOk_of HNB.out (by rw [HH.out]; rfl)
              have hwf := Wf.of_check (e := e) (vars := s.vars.length) (by rw [← HC.out]; exact HC0.out)
              have HFIN := Lib.hid (evalE_ok (HC.out.symm.trans HC0.out) HNB.out)
              obtain ⟨hw, wv0, wv1, wsz, wd⟩ := hwf
              have VAL := Lib.hid (refValue_all s HOK n h0 h1 h2 h3 h4 HN.out.symm HH.out hw _ _ _ _ w4 _ _ _ _ s.vars (HE.ext e4) (HI.ext e4) (HO.ext e4) (HV.ext e4) rfl (ranged_mem HB2.out.symm) (by omega) (by omega))
              unfold scAgg at VAL
              go_wp2_with fail
              refine VAL.out.mono ?_
              rintro _ w5 ⟨_, rfl, hb5, rfl⟩
              go_wp2
              go_ret2
              exact .mk (ext_trans e4 hb5) (tup_eq (by rw [HR1.out]; exact HFIN.out.1) (by rw [HR2.out]; exact HFIN.out.2))

  · have dc : (c != 0) = true := by simpa using hc0
    have HC0 := Lib.hid hc0
    clear hc0
    go_wp2
    go_ret2
    exact .mk e1 (tup_eq (by rw [HR1.out]; exact (evalE_err (by rw [← HC.out]; exact HC0.out)).1) (by rw [HR2.out, HC.out]; exact (evalE_err (by rw [← HC.out]; exact HC0.out)).2))

theorem rows5 (w : World) (x0 x1 x2 x3 x4 : List Value) (e0 e1 e2 e3 e4 : TypeId) :
    Row (((((w.alloc (.cells x0.toArray e0)).alloc (.cells x1.toArray e1)).alloc (.cells x2.toArray e2)).alloc (.cells x3.toArray e3)).alloc (.cells x4.toArray e4)) w.heap.size e0 x0 ∧
    Row (((((w.alloc (.cells x0.toArray e0)).alloc (.cells x1.toArray e1)).alloc (.cells x2.toArray e2)).alloc (.cells x3.toArray e3)).alloc (.cells x4.toArray e4)) (w.heap.size + 1) e1 x1 ∧
    Row (((((w.alloc (.cells x0.toArray e0)).alloc (.cells x1.toArray e1)).alloc (.cells x2.toArray e2)).alloc (.cells x3.toArray e3)).alloc (.cells x4.toArray e4)) (w.heap.size + 2) e2 x2 ∧
    Row (((((w.alloc (.cells x0.toArray e0)).alloc (.cells x1.toArray e1)).alloc (.cells x2.toArray e2)).alloc (.cells x3.toArray e3)).alloc (.cells x4.toArray e4)) (w.heap.size + 3) e3 x3 ∧
    Row (((((w.alloc (.cells x0.toArray e0)).alloc (.cells x1.toArray e1)).alloc (.cells x2.toArray e2)).alloc (.cells x3.toArray e3)).alloc (.cells x4.toArray e4)) (w.heap.size + 4) e4 x4 := by
  refine ⟨((((row_new w x0 e0).alloc _).alloc _).alloc _).alloc _, ?_, ?_, ?_, ?_⟩
  · have h := (((row_new (w.alloc (.cells x0.toArray e0)) x1 e1).alloc (.cells x2.toArray e2)).alloc (.cells x3.toArray e3)).alloc (.cells x4.toArray e4)
    rwa [World.size_alloc] at h
  · have h := ((row_new ((w.alloc (.cells x0.toArray e0)).alloc (.cells x1.toArray e1)) x2 e2).alloc (.cells x3.toArray e3)).alloc (.cells x4.toArray e4)
    rwa [World.size_alloc, World.size_alloc] at h
  · have h := (row_new (((w.alloc (.cells x0.toArray e0)).alloc (.cells x1.toArray e1)).alloc (.cells x2.toArray e2)) x3 e3).alloc (.cells x4.toArray e4)
    rwa [World.size_alloc, World.size_alloc, World.size_alloc] at h
  · have h := row_new ((((w.alloc (.cells x0.toArray e0)).alloc (.cells x1.toArray e1)).alloc (.cells x2.toArray e2)).alloc (.cells x3.toArray e3)) x4 e4
    rwa [World.size_alloc, World.size_alloc, World.size_alloc, World.size_alloc] at h

set_option maxRecDepth 100000 in
set_option maxHeartbeats 1000000 in
theorem evaluator_calls (W : World) (n h0 h1 h2 h3 h4 : Int) (ia oa va : Option Addr) (il ic ol oc vl vc : Nat) :
    Calls Tryd.prog 28 #[.agg #[.int .i64 n, .slice ia il ic, .slice oa ol oc, .int .i64 h0, .int .i64 h1, .int .i64 h2, .int .i64 h3, .int .i64 h4, .slice va vl vc]] W
      (Post W fun W' r => ∃ B, r = .func (.func 45) #[] #[.pointer (some ⟨B + 4, 0, none⟩), .pointer (some ⟨B, 0, none⟩), .pointer (some ⟨B + 3, 0, none⟩), .pointer (some ⟨B + 2, 0, none⟩), .pointer (some ⟨B + 1, 0, none⟩)] ∧
        Env W' B n (.slice ia il ic) (.slice oa ol oc) h0 h1 h2 h3 h4 (.slice va vl vc)) := by
  have hmf : ∀ (fn : Fn) (first cap : Array Value) (w : World), (Instr.makeFunc fn first cap).run Tryd.prog w = .ok (.func fn first cap) w := fun _ _ _ _ => rfl
  go_enter Tryd.func28, Tryd.ntmps28
  go_wp2
  go_ret
  refine .mk ?_ ⟨W.heap.size, rfl, ?_, ?_, ?_, ?_, ?_⟩
  · exact ext_alloc' (ext_alloc' (ext_alloc' (ext_alloc' (ext_alloc W _) _) _) _) _
  all_goals
    obtain ⟨a, b, c, d, e⟩ := rows5 W [.int .i64 n, .slice ia il ic, .slice oa ol oc, .int .i64 h0, .int .i64 h1, .int .i64 h2, .int .i64 h3, .int .i64 h4, .slice va vl vc] [.func (.func 42) #[] #[.pointer (some ⟨W.heap.size, 0, none⟩)]] [.func (.func 43) #[] #[.pointer (some ⟨W.heap.size + 1, 0, none⟩)]]
      [.func (.func 45) #[] #[.pointer (some ⟨W.heap.size + 4, 0, none⟩), .pointer (some ⟨W.heap.size, 0, none⟩), .pointer (some ⟨W.heap.size + 3, 0, none⟩), .pointer (some ⟨W.heap.size + 2, 0, none⟩), .pointer (some ⟨W.heap.size + 1, 0, none⟩)]] [.func (.func 44) #[] #[.pointer (some ⟨W.heap.size, 0, none⟩), .pointer (some ⟨W.heap.size + 3, 0, none⟩)]]
      28 52 67 54 54
    first | exact a | exact b | exact c | exact d | exact e

set_option maxRecDepth 100000 in
set_option maxHeartbeats 4000000 in
theorem eval_calls {S S' : Nat → Prop} {w : World} {e : Ex} {v sv : Value} {s : Sc} (hT : Tab w) (h : ExprV S w e v) (hs : ScV S' w s sv) (hsz : sizeE e ≤ 1000) :
    Calls Tryd.prog 7 #[v, sv] w (Post w fun _ r => r = .tuple #[.int .i64 (evalE s e).1, .int .i64 (evalE s e).2]) := by
  obtain ⟨iv, ov, vv, h0, h1, h2, h3, h4, rfl, hh, hi, ho, hv⟩ := hs
  have HI := hi
  have HO := ho
  have HV := hv
  have HE := h
  obtain ⟨ia, icap, rfl, ai, i1, i2, ci, wi⟩ := hi
  obtain ⟨oa, ocap, rfl, ao, o1, o2, co, wo⟩ := ho
  obtain ⟨va, vcap, rfl, av, v1, v2, cv, wv⟩ := hv
  obtain ⟨a, cap, rfl, eo, en, ae, l1, l2⟩ := h.parts
  clear ci co cv
  unfold maxLen at i2 o2 v2
  obtain ⟨R1, hR1⟩ : ∃ x, x = (evalE s e).1 := ⟨_, rfl⟩
  obtain ⟨R2, hR2⟩ : ∃ x, x = (evalE s e).2 := ⟨_, rfl⟩
  rw [← hR1, ← hR2]
  obtain ⟨n, hn⟩ : ∃ n, n = s.n := ⟨_, rfl⟩
  unfold scAgg
  rw [← hn]
  obtain ⟨c, hc⟩ : ∃ c, c = checkE e s.vars.length := ⟨_, rfl⟩
  have HC := Lib.hid hc
  have HN := Lib.hid hn
  have HR1 := Lib.hid hR1
  have HR2 := Lib.hid hR2
  have HH := Lib.hid hh
  clear hR1 hR2 hn hc hh
  have ex1 := ext_alloc' (ext_alloc w (.cells #[.int .i64 e.op, .int .i64 e.num, .slice a e.args.length cap] 24)) (.cells #[.int .i64 n, .slice ia s.inl.length icap, .slice oa s.outl.length ocap, .int .i64 h0, .int .i64 h1, .int .i64 h2, .int .i64 h3, .int .i64 h4, .slice va s.vars.length vcap] 28)
  have r1 := (row_new w [.int .i64 e.op, .int .i64 e.num, .slice a e.args.length cap] 24).alloc (.cells #[.int .i64 n, .slice ia s.inl.length icap, .slice oa s.outl.length ocap, .int .i64 h0, .int .i64 h1, .int .i64 h2, .int .i64 h3, .int .i64 h4, .slice va s.vars.length vcap] 28)
  have r2 := row_new (w.alloc (.cells #[.int .i64 e.op, .int .i64 e.num, .slice a e.args.length cap] 24)) [.int .i64 n, .slice ia s.inl.length icap, .slice oa s.outl.length ocap, .int .i64 h0, .int .i64 h1, .int .i64 h2, .int .i64 h3, .int .i64 h4, .slice va s.vars.length vcap] 28
  rw [World.size_alloc] at r2
  have hlv : (s.vars.length : Int) ≤ 9223372036854775807 := by omega
  have hT1 := hT.ext ex1
  have CHK := Lib.hid (check_calls hT1 (HE.ext ex1) (by omega) (s.vars.length : Int))
  rw [← HC.out] at CHK
  go_enter Tryd.func7, Tryd.ntmps7
  go_wp2_with fail
  refine CHK.out.mono ?_
  rintro _ w1 ⟨_, rfl, hb1, rfl⟩
  have e1 := ext_trans ex1 hb1
  have r1' := r1.ext hb1
  have r2' := r2.ext hb1
  obtain ⟨x0, x1, x2⟩ := r1'.three
  obtain ⟨s0, s1, s2, s3, s4, s5, s6, s7, s8⟩ := r2'.nine
  by_cases hc0 : c = 0
  · have dc : (c != 0) = false := by simpa using hc0
    have HC0 := Lib.hid hc0
    clear hc0
    by_cases hn1 : n < 1
    · have d1 : decide (n < 1) = true := by simpa using hn1
      have HB := Lib.hid (show scBad s = true by unfold scBad; rw [← HN.out, d1]; simp)
      go_wp2
      go_ret2
      exact .mk e1 (tup_eq (by rw [HR1.out]; exact (evalE_bad (HC.out.symm.trans HC0.out) HB.out).1) (by rw [HR2.out]; exact (evalE_bad (HC.out.symm.trans HC0.out) HB.out).2))
    · have d1 : decide (n < 1) = false := by simpa using hn1
      by_cases hn5 : 5 < n
      · have d2 : decide (5 < n) = true := by simpa using hn5
        have HB := Lib.hid (show scBad s = true by unfold scBad; rw [← HN.out, d2]; simp)
        go_wp2
        go_ret2
        exact .mk e1 (tup_eq (by rw [HR1.out]; exact (evalE_bad (HC.out.symm.trans HC0.out) HB.out).1) (by rw [HR2.out]; exact (evalE_bad (HC.out.symm.trans HC0.out) HB.out).2))
      · have d2 : decide (5 < n) = false := by simpa using hn5
        have RG := Lib.hid (containsWide_calls (HI.ext e1))
        obtain ⟨b0, hb0'⟩ : ∃ b, b = rangedB s.inl := ⟨_, rfl⟩
        rw [← hb0'] at RG
        have HB0 := Lib.hid hb0'
        clear hb0'
        go_wp2_with fail
        refine RG.out.mono ?_
        rintro _ w2 ⟨_, rfl, hb2, rfl⟩
        have e2 := ext_trans e1 hb2
        clear x0 x1 x2 s0 s1 s2 s3 s4 s5 s6 s7 s8 RG
        obtain ⟨x0, x1, x2⟩ := (r1.ext (ext_trans hb1 hb2)).three
        obtain ⟨s0, s1, s2, s3, s4, s5, s6, s7, s8⟩ := (r2.ext (ext_trans hb1 hb2)).nine
        cases b0 with
        | false =>
          have HB := Lib.hid (show scBad s = true by unfold scBad; rw [← HB0.out]; simp)
          go_wp2
          go_ret2
          exact .mk e2 (tup_eq (by rw [HR1.out]; exact (evalE_bad (HC.out.symm.trans HC0.out) HB.out).1) (by rw [HR2.out]; exact (evalE_bad (HC.out.symm.trans HC0.out) HB.out).2))
        | true =>
          have RG := Lib.hid (containsWide_calls (HO.ext e2))
          obtain ⟨b1, hb1'⟩ : ∃ b, b = rangedB s.outl := ⟨_, rfl⟩
          rw [← hb1'] at RG
          have HB1 := Lib.hid hb1'
          clear hb1'
          go_wp2_with fail
          refine RG.out.mono ?_
          rintro _ w3 ⟨_, rfl, hb3, rfl⟩
          have e3 := ext_trans e2 hb3
          clear x0 x1 x2 s0 s1 s2 s3 s4 s5 s6 s7 s8 RG
          obtain ⟨x0, x1, x2⟩ := (r1.ext (ext_trans (ext_trans hb1 hb2) hb3)).three
          obtain ⟨s0, s1, s2, s3, s4, s5, s6, s7, s8⟩ := (r2.ext (ext_trans (ext_trans hb1 hb2) hb3)).nine
          cases b1 with
          | false =>
            have HB := Lib.hid (show scBad s = true by unfold scBad; rw [← HB1.out]; simp)
            go_wp2
            go_ret2
            exact .mk e3 (tup_eq (by rw [HR1.out]; exact (evalE_bad (HC.out.symm.trans HC0.out) HB.out).1) (by rw [HR2.out]; exact (evalE_bad (HC.out.symm.trans HC0.out) HB.out).2))
          | true =>
            have RG := Lib.hid (containsWide_calls (HV.ext e3))
            obtain ⟨b2, hb2'⟩ : ∃ b, b = rangedB s.vars := ⟨_, rfl⟩
            rw [← hb2'] at RG
            have HB2 := Lib.hid hb2'
            clear hb2'
            go_wp2_with fail
            refine RG.out.mono ?_
            rintro _ w4 ⟨_, rfl, hb4, rfl⟩
            have e4 := ext_trans e3 hb4
            clear x0 x1 x2 s0 s1 s2 s3 s4 s5 s6 s7 s8 RG
            obtain ⟨x0, x1, x2⟩ := (r1.ext (ext_trans (ext_trans (ext_trans hb1 hb2) hb3) hb4)).three
            obtain ⟨s0, s1, s2, s3, s4, s5, s6, s7, s8⟩ := (r2.ext (ext_trans (ext_trans (ext_trans hb1 hb2) hb3) hb4)).nine
            cases b2 with
            | false =>
              have HB := Lib.hid (show scBad s = true by unfold scBad; rw [← HB2.out]; simp)
              go_wp2
              go_ret2
              exact .mk e4 (tup_eq (by rw [HR1.out]; exact (evalE_bad (HC.out.symm.trans HC0.out) HB.out).1) (by rw [HR2.out]; exact (evalE_bad (HC.out.symm.trans HC0.out) HB.out).2))
            | true =>
              have HNB := Lib.hid (show scBad s = false by unfold scBad; rw [← HB0.out, ← HB1.out, ← HB2.out, ← HN.out, d1, d2]; rfl)
              have HOK := scOk_of HNB.out (by rw [HH.out]; rfl)
              have hwf := Wf.of_check (e := e) (vars := s.vars.length) (by rw [← HC.out]; exact HC0.out)
              have HFIN := Lib.hid (evalE_ok (HC.out.symm.trans HC0.out) HNB.out)
              obtain ⟨hw, wv0, wv1, wsz, wd⟩ := hwf
              clear hT1
              have VAL := Lib.hid (fun W' B (hW' : Below w4.heap.size w4 W') henv => evVal_all s HOK n h0 h1 h2 h3 h4 HN.out.symm HH.out hw _ _ _ _ W' B _ _ _ (.slice va s.vars.length vcap) _ s.vars henv (HE.ext (ext_trans e4 hW')) (HI.ext (ext_trans e4 hW')) (HO.ext (ext_trans e4 hW')) (HV.ext (ext_trans e4 hW')) rfl (ranged_mem HB2.out.symm) (by omega) (by omega))
              go_wp2_with fail
              have hrefl := Below.refl w4.heap.size w4
              have KEEP : ∀ W', Below w4.heap.size w4 W' → (fun w' : World => w'.cell? ⟨w.heap.size, 0, none⟩ = some (.int .i64 e.op) ∧ w'.cell? ⟨w.heap.size, 1, none⟩ = some (.int .i64 e.num) ∧ w'.cell? ⟨w.heap.size, 2, none⟩ = some (.slice a e.args.length cap) ∧ w'.cell? ⟨w.heap.size + 1, 0, none⟩ = some (.int .i64 n) ∧ w'.cell? ⟨w.heap.size + 1, 1, none⟩ = some (.slice ia s.inl.length icap) ∧ w'.cell? ⟨w.heap.size + 1, 2, none⟩ = some (.slice oa s.outl.length ocap) ∧ w'.cell? ⟨w.heap.size + 1, 3, none⟩ = some (.int .i64 h0) ∧ w'.cell? ⟨w.heap.size + 1, 4, none⟩ = some (.int .i64 h1) ∧ w'.cell? ⟨w.heap.size + 1, 5, none⟩ = some (.int .i64 h2) ∧ w'.cell? ⟨w.heap.size + 1, 6, none⟩ = some (.int .i64 h3) ∧ w'.cell? ⟨w.heap.size + 1, 7, none⟩ = some (.int .i64 h4) ∧ w'.cell? ⟨w.heap.size + 1, 8, none⟩ = some (.slice va s.vars.length vcap) ∧ Below w4.heap.size w4 w') W' := fun W' hW' => ⟨cell_ext x0 hW', cell_ext x1 hW', cell_ext x2 hW', cell_ext s0 hW', cell_ext s1 hW', cell_ext s2 hW', cell_ext s3 hW', cell_ext s4 hW', cell_ext s5 hW', cell_ext s6 hW', cell_ext s7 hW', cell_ext s8 hW', hW'⟩
              have KEEP := Lib.hid KEEP
              go_region_held3 (fun w' : World => w'.cell? ⟨w.heap.size, 0, none⟩ = some (.int .i64 e.op) ∧ w'.cell? ⟨w.heap.size, 1, none⟩ = some (.int .i64 e.num) ∧ w'.cell? ⟨w.heap.size, 2, none⟩ = some (.slice a e.args.length cap) ∧ w'.cell? ⟨w.heap.size + 1, 0, none⟩ = some (.int .i64 n) ∧ w'.cell? ⟨w.heap.size + 1, 1, none⟩ = some (.slice ia s.inl.length icap) ∧ w'.cell? ⟨w.heap.size + 1, 2, none⟩ = some (.slice oa s.outl.length ocap) ∧ w'.cell? ⟨w.heap.size + 1, 3, none⟩ = some (.int .i64 h0) ∧ w'.cell? ⟨w.heap.size + 1, 4, none⟩ = some (.int .i64 h1) ∧ w'.cell? ⟨w.heap.size + 1, 5, none⟩ = some (.int .i64 h2) ∧ w'.cell? ⟨w.heap.size + 1, 6, none⟩ = some (.int .i64 h3) ∧ w'.cell? ⟨w.heap.size + 1, 7, none⟩ = some (.int .i64 h4) ∧ w'.cell? ⟨w.heap.size + 1, 8, none⟩ = some (.slice va s.vars.length vcap) ∧ Below w4.heap.size w4 w')
                (first | (apply KEEP.out; first | assumption | (apply Below.drew; assumption)))
                (first | (go_at_call 28; refine (evaluator_calls _ n h0 h1 h2 h3 h4 ia oa va s.inl.length icap s.outl.length ocap s.vars.length vcap).mono ?_; rintro _ w5 ⟨_, rfl, hb5, B, rfl, henv⟩; have hbb : Below w4.heap.size w4 w5 := ext_trans (by (first | assumption | (apply Below.drew; assumption))) hb5) | (go_at_call 45; refine (VAL.out _ B (by (first | assumption | (apply Below.drew; assumption))) henv).mono ?_; rintro _ w6 ⟨_, rfl, hb6, rfl⟩; have hbb : Below w4.heap.size w4 w6 := ext_trans (by (first | assumption | (apply Below.drew; assumption))) hb6))
              go_wp2
              go_ret2
              exact .mk (ext_trans e4 hbb) (tup_eq (by rw [HR1.out]; exact HFIN.out.1) (by rw [HR2.out]; exact HFIN.out.2))

  · have dc : (c != 0) = true := by simpa using hc0
    have HC0 := Lib.hid hc0
    clear hc0
    go_wp2
    go_ret2
    exact .mk e1 (tup_eq (by rw [HR1.out]; exact (evalE_err (by rw [← HC.out]; exact HC0.out)).1) (by rw [HR2.out, HC.out]; exact (evalE_err (by rw [← HC.out]; exact HC0.out)).2))

end Go.Proofs.YthogcbffnbhalaaDoor

