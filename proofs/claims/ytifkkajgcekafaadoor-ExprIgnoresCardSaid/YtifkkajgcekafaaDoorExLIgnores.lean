/- The walk of ExprIgnores. -/
import Derived.Test.YtifkkajgcekafaaDoorExAwake
import Derived.Test.YtifkkajgcekafaaDoorExLaw0
import Derived.Test.YtifkkajgcekafaaDoorExIgn
import Derived.Test.YtifkkajgcekafaaDoorExFreeE
namespace Go.Proofs.YtifkkajgcekafaaDoor
set_option linter.unusedVariables false
open Go.RowKit
attribute [local go_sem ↓] Go.wp_at_zero Go.wp_at_succ

theorem ready_fact {s : Sc} {e : Ex} (h : readyB s e = true) (hl : s.hears.length = 5) : sizeE e ≤ 128 ∧ Wf s.vars.length e ∧ ScOk s ∧ s.vars.length ≤ 24 ∧ checkE e s.vars.length = 0 ∧ scBad s = false := by
  unfold readyB at h
  simp only [Bool.and_eq_true, decide_eq_true_eq] at h
  obtain ⟨⟨h1, h2⟩, h3⟩ := h
  by_cases hc : checkE e s.vars.length = 0
  · cases hb : scBad s with
    | true => have := (evalE_bad hc hb).2; omega
    | false =>
      obtain ⟨k1, k2, k3, k4, k5⟩ := Wf.of_check hc
      exact ⟨k4, k1, scOk_of hb hl, by omega, hc, rfl⟩
  · exact absurd ((evalE_err hc).2.trans h3) hc

theorem and_bits : ∀ u : Fin 8, (bits .and .i64 (u.val : Int) 1 == 0) = !u.val.testBit 0 ∧ (bits .and .i64 (u.val : Int) 2 == 0) = !u.val.testBit 1 ∧ (bits .and .i64 (u.val : Int) 4 == 0) = !u.val.testBit 2 := by decide
theorem uses_bits (e : Ex) : (bits .and .i64 ((usesE e : Nat) : Int) 1 == 0) = !(usesE e).testBit 0 ∧ (bits .and .i64 ((usesE e : Nat) : Int) 2 == 0) = !(usesE e).testBit 1 ∧ (bits .and .i64 ((usesE e : Nat) : Int) 4 == 0) = !(usesE e).testBit 2 := and_bits ⟨usesE e, usesE_lt e⟩
theorem lit3_ints (w : World) : Ints (fun b => b = w.heap.size) (w.alloc (.cells #[.int .i64 1, .int .i64 0, .int .i64 2] 3)) (.slice (some ⟨w.heap.size, 0, none⟩) 3 3) [1, 0, 2] :=
  ((row_new w [.int .i64 1, .int .i64 0, .int .i64 2] 3).ints (l := [1, 0, 2]) (by simp [maxLen]) (by intro x hx; simp at hx; unfold WF; omega))
theorem lit2_ints (w : World) : Ints (fun b => b = w.heap.size) (w.alloc (.cells #[.int .i64 2, .int .i64 1] 3)) (.slice (some ⟨w.heap.size, 0, none⟩) 2 2) [2, 1] :=
  ((row_new w [.int .i64 2, .int .i64 1] 3).ints (l := [2, 1]) (by simp [maxLen]) (by intro x hx; simp at hx; unfold WF; omega))
theorem Ints.bound {S : Nat → Prop} {w : World} {v : Value} {l : List Int} (h : Ints S w v l) : Ints (fun b => S b ∧ b < w.heap.size) w v l := by
  obtain ⟨a, cap, rfl, ha, r⟩ := h
  exact ⟨a, cap, rfl, ha.imp id fun ⟨b, off, e, hb, hs⟩ => ⟨b, off, e, hb, hs, hb⟩, r⟩
theorem Ints.set_ {Bo j : Nat} {w : World} {v u : Value} {l : List Int} (h : Ints (fun b => b ≠ Bo) w v l) : Ints (fun b => b ≠ Bo) (w.setCell ⟨Bo, j, none⟩ u) v l := h.agree (.of_grown (grownBy_setCell w Bo j u) fun b hb e => hb (by cases e; rfl))
theorem set_agree {S : Nat → Prop} {w : World} {g j : Nat} {u : Value} (hS : ∀ b, S b → b ≠ g) : Agree S w (w.setCell ⟨g, j, none⟩ u).drew :=
  have h : Agree S w (w.setCell ⟨g, j, none⟩ u) := .of_grown (grownBy_setCell w g j u) fun b hb e => hS b hb (by cases e; rfl)
  ⟨h.size, h.block⟩
theorem freeR_eq (e : Ex) (v : Int) : freeR e v = freeR0 e v := by unfold freeR freeR0; rfl
set_option maxRecDepth 100000 in
theorem freeVI_calls {S : Nat → Prop} {w : World} {e : Ex} {v : Value} {l : List Int} {f : Int} (hT : Tab w) (h : ExprV S w e v) (hsz : sizeE e ≤ 1000) (vars : Int) (he : freeR e vars = (l, f)) :
    Calls Tryd.prog 32 #[v, .int .i64 vars] w (Post w fun W' r => ∃ u, r = .tuple #[u, .int .i64 f] ∧ Ints (fun b => w.heap.size ≤ b) W' u l) := by
  have h1 := free_calls hT h hsz vars
  rw [he] at h1
  refine h1.mono ?_
  intro a b hh
  obtain ⟨v, h2, h3, u, h4, h5⟩ := hh
  exact ⟨v, h2, h3, u, h4, h5⟩
theorem otherS_ints {s t : Sc} {e : Ex} {c1 c2 c3 : Bool} (h1 : c1 = !(usesE e).testBit 0) (h2 : c2 = !(usesE e).testBit 1) (h3 : c3 = !(usesE e).testBit 2) :
    (otherS s t e).inl = (if c1 = true then [1, 0, 2] else s.inl) ∧ (otherS s t e).outl = (if c2 = true then [2, 1] else s.outl) ∧ (otherS s t e).hears = (if c3 = true then t.hears else s.hears) := by
  subst h1 h2 h3
  unfold otherS
  refine ⟨?_, ?_, ?_⟩
  · cases (usesE e).testBit 0 <;> rfl
  · cases (usesE e).testBit 1 <;> rfl
  · cases (usesE e).testBit 2 <;> rfl
theorem otherS_scV {S1 S2 S3 : Nat → Prop} {W : World} {s t : Sc} {e : Ex} {c1 c2 c3 : Bool} {n k0 k1 k2 k3 k4 : Int} {iv2 ov2 vv : Value} {L : List Int} (h1 : c1 = !(usesE e).testBit 0) (h2 : c2 = !(usesE e).testBit 1) (h3 : c3 = !(usesE e).testBit 2) (hn : n = s.n)
    (hk : [k0, k1, k2, k3, k4] = (if c3 = true then t.hears else s.hears)) (hi : Ints S1 W iv2 (if c1 = true then [1, 0, 2] else s.inl)) (ho : Ints S2 W ov2 (if c2 = true then [2, 1] else s.outl)) (hL : L = freeE e s.vars.length) (hv : Ints S3 W vv (setAll s.vars L)) :
    ScV (fun _ => True) W (otherS s t e) (.agg #[.int .i64 n, iv2, ov2, .int .i64 k0, .int .i64 k1, .int .i64 k2, .int .i64 k3, .int .i64 k4, vv]) := by
  obtain ⟨oi, oo, oh⟩ := otherS_ints (s := s) (t := t) h1 h2 h3
  have on : (otherS s t e).n = n := hn.symm
  have ov : (otherS s t e).vars = setAll s.vars L := by rw [hL]; rfl
  refine ⟨iv2, ov2, vv, k0, k1, k2, k3, k4, ?_, ?_, ?_, ?_, ?_⟩
  · rw [on]; rfl
  · rw [oh, hk]
  · rw [oi]; exact hi.all
  · rw [oo]; exact ho.all
  · rw [ov]; exact hv.all
theorem Ints.below {B : Nat} {S : Nat → Prop} {w w' : World} {v : Value} {l : List Int} (h : Ints S w v l) (hb : Below B w w') (hS : ∀ b, S b → b < B) : Ints S w' v l := h.agree (.of_below hb fun b hb _ => hS b hb)

set_option maxRecDepth 100000 in
set_option maxHeartbeats 8000000 in
theorem walkExprIgnores {S S' S'' : Nat → Prop} {w : World} {e : Ex} {v sv tv : Value} {s t : Sc} (hT : Tab w) (h : ExprV S w e v) (hs : ScV S' w s sv) (ht : ScV S'' w t tv) : Calls Tryd.prog 9 #[v, sv, tv] w (Post w fun _ r => r = .bool true) := by
  obtain ⟨iv, ov, vv, h0, h1, h2, h3, h4, rfl, hh, hi, ho, hv⟩ := hs
  have HS : ScV S' w s (scAgg s.n iv ov h0 h1 h2 h3 h4 vv) := ⟨iv, ov, vv, h0, h1, h2, h3, h4, rfl, hh, hi, ho, hv⟩
  obtain ⟨iv', ov', vv', g0, g1, g2, g3, g4, rfl, gh, gi, go_, gv⟩ := ht
  have HT2 : ScV S'' w t (scAgg t.n iv' ov' g0 g1 g2 g3 g4 vv') := ⟨iv', ov', vv', g0, g1, g2, g3, g4, rfl, gh, gi, go_, gv⟩
  have HIv := hi.all
  have HOv := ho.all
  have HVv := hv.all
  obtain ⟨ia, icap, rfl, _⟩ := hi
  obtain ⟨oa, ocap, rfl, _⟩ := ho
  obtain ⟨va, vcap, rfl, _⟩ := hv
  obtain ⟨ja, jcap, rfl, _⟩ := gi
  obtain ⟨pa, pcap, rfl, _⟩ := go_
  obtain ⟨ua, ucap, rfl, _⟩ := gv
  unfold scAgg
  unfold scAgg at HS HT2
  have H5 := Lib.hid (show s.hears.length = 5 by rw [hh]; rfl)
  have HH := Lib.hid hh
  have GH := Lib.hid gh
  obtain ⟨n, hn⟩ : ∃ n, n = s.n := ⟨_, rfl⟩
  obtain ⟨tn, htn⟩ : ∃ n, n = t.n := ⟨_, rfl⟩
  rw [← hn, ← htn]
  rw [← hn] at HS
  rw [← htn] at HT2
  have HN := Lib.hid hn
  clear hn hh htn gh
  have HE := h
  obtain ⟨a, cap, rfl, eo, en, ae, l1, l2⟩ := h.parts
  obtain ⟨w0, hw0⟩ : ∃ w0, w0 = ((w.alloc (.cells #[.int .i64 e.op, .int .i64 e.num, .slice a e.args.length cap] 24)).alloc (.cells #[.int .i64 n, .slice ia s.inl.length icap, .slice oa s.outl.length ocap, .int .i64 h0, .int .i64 h1, .int .i64 h2, .int .i64 h3, .int .i64 h4, .slice va s.vars.length vcap] 28)).alloc (.cells #[.int .i64 tn, .slice ja t.inl.length jcap, .slice pa t.outl.length pcap, .int .i64 g0, .int .i64 g1, .int .i64 g2, .int .i64 g3, .int .i64 g4, .slice ua t.vars.length ucap] 28) := ⟨_, rfl⟩
  have e0 : Below w.heap.size w w0 := by rw [hw0]; exact ext_alloc' (ext_alloc' (ext_alloc w _) _) _
  have rE : Row w0 w.heap.size 24 [.int .i64 e.op, .int .i64 e.num, .slice a e.args.length cap] := by rw [hw0]; exact ((row_new w [.int .i64 e.op, .int .i64 e.num, .slice a e.args.length cap] 24).alloc _).alloc _
  have rS : Row w0 (w.heap.size + 1) 28 [.int .i64 n, .slice ia s.inl.length icap, .slice oa s.outl.length ocap, .int .i64 h0, .int .i64 h1, .int .i64 h2, .int .i64 h3, .int .i64 h4, .slice va s.vars.length vcap] := by
    have r2 := (row_new (w.alloc (.cells #[.int .i64 e.op, .int .i64 e.num, .slice a e.args.length cap] 24)) [.int .i64 n, .slice ia s.inl.length icap, .slice oa s.outl.length ocap, .int .i64 h0, .int .i64 h1, .int .i64 h2, .int .i64 h3, .int .i64 h4, .slice va s.vars.length vcap] 28).alloc (.cells #[.int .i64 tn, .slice ja t.inl.length jcap, .slice pa t.outl.length pcap, .int .i64 g0, .int .i64 g1, .int .i64 g2, .int .i64 g3, .int .i64 g4, .slice ua t.vars.length ucap] 28)
    rw [World.size_alloc] at r2
    rw [hw0]
    exact r2
  have rT : Row w0 (w.heap.size + 2) 28 [.int .i64 tn, .slice ja t.inl.length jcap, .slice pa t.outl.length pcap, .int .i64 g0, .int .i64 g1, .int .i64 g2, .int .i64 g3, .int .i64 g4, .slice ua t.vars.length ucap] := by
    have r2 := row_new ((w.alloc (.cells #[.int .i64 e.op, .int .i64 e.num, .slice a e.args.length cap] 24)).alloc (.cells #[.int .i64 n, .slice ia s.inl.length icap, .slice oa s.outl.length ocap, .int .i64 h0, .int .i64 h1, .int .i64 h2, .int .i64 h3, .int .i64 h4, .slice va s.vars.length vcap] 28)) [.int .i64 tn, .slice ja t.inl.length jcap, .slice pa t.outl.length pcap, .int .i64 g0, .int .i64 g1, .int .i64 g2, .int .i64 g3, .int .i64 g4, .slice ua t.vars.length ucap] 28
    rw [World.size_alloc, World.size_alloc] at r2
    rw [hw0]
    exact r2
  have HE := HE.ext e0
  have HS := HS.ext e0
  have HT2 := HT2.ext e0
  have HIv := HIv.ext e0
  have HOv := HOv.ext e0
  have HVv := HVv.ext e0
  have TT := hT.ext e0
  have EE := e0
  have AW := Lib.hid (fun W (hW : Below w0.heap.size w0 W) => awake_calls (TT.ext hW))
  have RD := Lib.hid (fun W (hW : Below w0.heap.size w0 W) => ready_calls (HE.ext hW) (HS.ext hW))
  have FT := Lib.hid (fun W (hW : Below w0.heap.size w0 W) => fewScene_calls (HT2.ext hW))
  obtain ⟨b1, hb1⟩ : ∃ x, x = readyB s e := ⟨_, rfl⟩
  obtain ⟨b2, hb2⟩ : ∃ x, x = fewScB t := ⟨_, rfl⟩
  rw [← hb1] at RD
  rw [← hb2] at FT
  have FACT := Lib.hid (fun h => ready_fact (s := s) (e := e) (hb1 ▸ h) H5.out)
  clear hb1 hb2
  obtain ⟨xrE0, xrE1, xrE2⟩ := rE.three
  have ltrE := rE.lt
  obtain ⟨yrS0, yrS1, yrS2, yrS3, yrS4, yrS5, yrS6, yrS7, yrS8⟩ := rS.nine
  have ltrS := rS.lt
  obtain ⟨trT0, trT1, trT2, trT3, trT4, trT5, trT6, trT7, trT8⟩ := rT.nine
  have ltrT := rT.lt
  go_enter Tryd.func9, Tryd.ntmps9
  go_upto_region 1 with fail
  rw [← hw0]
  have hb0 := Below.refl w0.heap.size w0
  clear hw0 e0 hT
  go_wp2_with fail
  refine (RD.out _ hb0).mono ?_
  rintro _ w1 ⟨_, rfl, hz, rfl⟩
  have hb1 := ext_trans hb0 hz
  clear ltrE ltrS ltrT xrE0 xrE1 xrE2 yrS0 yrS1 yrS2 yrS3 yrS4 yrS5 yrS6 yrS7 yrS8 trT0 trT1 trT2 trT3 trT4 trT5 trT6 trT7 trT8
  have rE := rE.ext hz
  have rS := rS.ext hz
  have rT := rT.ext hz
  clear hz
  obtain ⟨xrE0, xrE1, xrE2⟩ := rE.three
  have ltrE := rE.lt
  obtain ⟨yrS0, yrS1, yrS2, yrS3, yrS4, yrS5, yrS6, yrS7, yrS8⟩ := rS.nine
  have ltrS := rS.lt
  obtain ⟨trT0, trT1, trT2, trT3, trT4, trT5, trT6, trT7, trT8⟩ := rT.nine
  have ltrT := rT.lt
  cases b1 with
  | false =>
    go_wp2_with fail
    refine (AW.out _ hb1).mono ?_
    rintro _ w2 ⟨_, rfl, hz, rfl⟩
    have hb2 := ext_trans hb1 hz
    clear ltrE ltrS ltrT xrE0 xrE1 xrE2 yrS0 yrS1 yrS2 yrS3 yrS4 yrS5 yrS6 yrS7 yrS8 trT0 trT1 trT2 trT3 trT4 trT5 trT6 trT7 trT8
    have rE := rE.ext hz
    have rS := rS.ext hz
    have rT := rT.ext hz
    clear hz
    obtain ⟨xrE0, xrE1, xrE2⟩ := rE.three
    have ltrE := rE.lt
    obtain ⟨yrS0, yrS1, yrS2, yrS3, yrS4, yrS5, yrS6, yrS7, yrS8⟩ := rS.nine
    have ltrS := rS.lt
    obtain ⟨trT0, trT1, trT2, trT3, trT4, trT5, trT6, trT7, trT8⟩ := rT.nine
    have ltrT := rT.lt
    go_wp2
    go_ret
    exact .mk (ext_trans EE hb2) rfl
  | true =>
    go_wp2_with fail
    refine (FT.out _ hb1).mono ?_
    rintro _ w2 ⟨_, rfl, hz, rfl⟩
    have hb2 := ext_trans hb1 hz
    clear ltrE ltrS ltrT xrE0 xrE1 xrE2 yrS0 yrS1 yrS2 yrS3 yrS4 yrS5 yrS6 yrS7 yrS8 trT0 trT1 trT2 trT3 trT4 trT5 trT6 trT7 trT8
    have rE := rE.ext hz
    have rS := rS.ext hz
    have rT := rT.ext hz
    clear hz
    obtain ⟨xrE0, xrE1, xrE2⟩ := rE.three
    have ltrE := rE.lt
    obtain ⟨yrS0, yrS1, yrS2, yrS3, yrS4, yrS5, yrS6, yrS7, yrS8⟩ := rS.nine
    have ltrS := rS.lt
    obtain ⟨trT0, trT1, trT2, trT3, trT4, trT5, trT6, trT7, trT8⟩ := rT.nine
    have ltrT := rT.lt
    cases b2 with
    | false =>
      go_wp2_with fail
      refine (AW.out _ hb2).mono ?_
      rintro _ w3 ⟨_, rfl, hz, rfl⟩
      have hb3 := ext_trans hb2 hz
      clear ltrE ltrS ltrT xrE0 xrE1 xrE2 yrS0 yrS1 yrS2 yrS3 yrS4 yrS5 yrS6 yrS7 yrS8 trT0 trT1 trT2 trT3 trT4 trT5 trT6 trT7 trT8
      have rE := rE.ext hz
      have rS := rS.ext hz
      have rT := rT.ext hz
      clear hz
      obtain ⟨xrE0, xrE1, xrE2⟩ := rE.three
      have ltrE := rE.lt
      obtain ⟨yrS0, yrS1, yrS2, yrS3, yrS4, yrS5, yrS6, yrS7, yrS8⟩ := rS.nine
      have ltrS := rS.lt
      obtain ⟨trT0, trT1, trT2, trT3, trT4, trT5, trT6, trT7, trT8⟩ := rT.nine
      have ltrT := rT.lt
      go_wp2
      go_ret
      exact .mk (ext_trans EE hb3) rfl
    | true =>
      obtain ⟨HSZ, HWF, HOK, HL, HCK, HBD⟩ := FACT.out (by first | exact trivial | rfl)
      have IG := ignores_fact (t := t) HWF HCK HBD
      obtain ⟨N, E1, E2, F1⟩ := IG
      have E1 := Lib.hid E1
      have E2 := Lib.hid E2
      rw [← freeR_eq] at F1
      have F1 := Lib.hid F1
      have HSZ := Lib.hid HSZ
      have HWF := Lib.hid HWF
      have HL := Lib.hid HL
      obtain ⟨c1, hc1⟩ : ∃ c, c = !(usesE e).testBit 0 := ⟨_, rfl⟩
      obtain ⟨c2, hc2⟩ : ∃ c, c = !(usesE e).testBit 1 := ⟨_, rfl⟩
      obtain ⟨c3, hc3⟩ : ∃ c, c = !(usesE e).testBit 2 := ⟨_, rfl⟩
      obtain ⟨DB1, DB2, DB3⟩ := uses_bits e
      rw [← hc1] at DB1
      rw [← hc2] at DB2
      rw [← hc3] at DB3
      have CU := Lib.hid (fun W (hW : Below w0.heap.size w0 W) => uses_calls HE W hW (by have := HSZ.out; omega))
      obtain ⟨p, hp⟩ : ∃ p : Int, p = (usesE e : Nat) := ⟨_, rfl⟩
      rw [← hp] at DB1 DB2 DB3 CU
      have HC1 := Lib.hid hc1
      have HC2 := Lib.hid hc2
      have HC3 := Lib.hid hc3
      clear hp hc1 hc2 hc3 HOK HCK HBD
      go_wp2_with fail
      obtain ⟨wb, hw⟩ : ∃ w, w = w2.alloc (.cells #[.int .i64 n, .slice ia s.inl.length icap, .slice oa s.outl.length ocap, .int .i64 h0, .int .i64 h1, .int .i64 h2, .int .i64 h3, .int .i64 h4, .slice none 0 0] 28) := ⟨_, rfl⟩
      rw [← hw]
      obtain ⟨Bo, hBo⟩ : ∃ B, B = w2.heap.size := ⟨_, rfl⟩
      have rO : Row wb Bo 28 [.int .i64 n, .slice ia s.inl.length icap, .slice oa s.outl.length ocap, .int .i64 h0, .int .i64 h1, .int .i64 h2, .int .i64 h3, .int .i64 h4, .slice none 0 0] := by rw [hw, hBo]; exact row_new _ _ _
      have hal : Below w2.heap.size w2 wb := by rw [hw]; exact ext_alloc _ _
      rw [← hBo]
      have HBo := Lib.hid hBo
      clear hw hBo
      clear ltrE ltrS ltrT xrE0 xrE1 xrE2 yrS0 yrS1 yrS2 yrS3 yrS4 yrS5 yrS6 yrS7 yrS8 trT0 trT1 trT2 trT3 trT4 trT5 trT6 trT7 trT8
      have EC := ext_trans EE hb2
      have HEc := (HE.ext hb2).bound
      have HSc := HS.ext hb2
      have HT2c := HT2.ext hb2
      have TTc := TT.ext hb2
      have HIvc := HIv.ext hb2
      have HOvc := HOv.ext hb2
      have HVvc := HVv.ext hb2
      have rEc := rE
      have rSc := rS
      have rTc := rT
      have CUc := Lib.hid (fun W (hW : Below w2.heap.size w2 W) => CU.out _ (ext_trans hb2 hW))
      have AWc := Lib.hid (fun W (hW : Below w2.heap.size w2 W) => AW.out _ (ext_trans hb2 hW))
      clear HE HS HT2 TT EE HIv HOv HVv AW CU RD FT rE rS rT hb0 hb1 hb2
      have HB0 := hal
      clear hal
      have lO := rO.lt
      have rE := rEc.ext HB0
      have rS := rSc.ext HB0
      have rT := rTc.ext HB0
      obtain ⟨x0, x1, x2⟩ := rE.three
      obtain ⟨y0, y1, y2, y3, y4, y5, y6, y7, y8⟩ := rS.nine
      obtain ⟨t0, t1, t2, t3, t4, t5, t6, t7, t8⟩ := rT.nine
      obtain ⟨o0, o1, o2, o3, o4, o5, o6, o7, o8⟩ := rO.nine
      have lE := rE.lt
      have lS := rS.lt
      have lT := rT.lt
      have lO := rO.lt
      refine (CUc.out _ HB0).mono ?_
      rintro _ wu ⟨_, rfl, hz, rfl⟩
      have HB1 := ext_trans HB0 hz
      have rO1 := rO.ext hz
      clear rE rS rT x0 x1 x2 y0 y1 y2 y3 y4 y5 y6 y7 y8 t0 t1 t2 t3 t4 t5 t6 t7 t8 o0 o1 o2 o3 o4 o5 o6 o7 o8 lE lS lT lO
      clear hz
      clear rO
      have rO := rO1
      clear rO1
      have rE := rEc.ext HB1
      have rS := rSc.ext HB1
      have rT := rTc.ext HB1
      obtain ⟨x0, x1, x2⟩ := rE.three
      obtain ⟨y0, y1, y2, y3, y4, y5, y6, y7, y8⟩ := rS.nine
      obtain ⟨t0, t1, t2, t3, t4, t5, t6, t7, t8⟩ := rT.nine
      obtain ⟨o0, o1, o2, o3, o4, o5, o6, o7, o8⟩ := rO.nine
      have lE := rE.lt
      have lS := rS.lt
      have lT := rT.lt
      have lO := rO.lt
      have q0 := rO.free 0
      have q1 := rO.free 1
      have q2 := rO.free 2
      have q3 := rO.free 3
      have q4 := rO.free 4
      have q5 := rO.free 5
      have q6 := rO.free 6
      have q7 := rO.free 7
      have q8 := rO.free 8
      have n1 : w.heap.size ≠ Bo := by have := rEc.lt; have := HBo.out; omega
      have n2 : w.heap.size + 1 ≠ Bo := by have := rSc.lt; have := HBo.out; omega
      have n3 : w.heap.size + 2 ≠ Bo := by have := rTc.lt; have := HBo.out; omega
      go_upto_if 40 with fail
      have HIv1 : Ints (fun b => b ≠ Bo) wu (.slice ia s.inl.length icap) s.inl := (HIvc.bound.ext HB1).mono fun b hb => by have := hb.2; have := HBo.out; omega
      have HOv1 : Ints (fun b => b ≠ Bo) wu (.slice oa s.outl.length ocap) s.outl := (HOvc.bound.ext HB1).mono fun b hb => by have := hb.2; have := HBo.out; omega
      go_cut [] (fun wx => Below w2.heap.size w2 wx ∧ ∃ iv2 : Value, Row wx Bo 28 [.int .i64 n, iv2, .slice oa s.outl.length ocap, .int .i64 h0, .int .i64 h1, .int .i64 h2, .int .i64 h3, .int .i64 h4, .slice none 0 0] ∧ Ints (fun b => b ≠ Bo) wx iv2 (if c1 = true then [1, 0, 2] else s.inl))
      case first =>
        cases c1 with
        | true =>
          go_wp2_with fail
          go_meet
          refine ⟨ext_alloc' (HB1.setCell (by show _ ≤ Bo; have := HBo.out; omega) _) _, _, (rO.set 1 _).alloc _, ?_⟩
          have h := (lit3_ints (wu.setCell ⟨Bo, 1, none⟩ (.slice (some ⟨wu.heap.size, 0, none⟩) 3 3))).mono (S' := fun b => b ≠ Bo) (fun b hb => by simp at hb; omega)
          rw [World.size_setCell] at h
          exact h
        | false =>
          go_wp2_with fail
          go_meet
          exact ⟨HB1, _, rO, HIv1⟩
      case rest =>
        obtain ⟨HB2, iv2, rO2, HIv2⟩ := hcut
        obtain ⟨wk2, rfl⟩ : ∃ wk2 : World, wk2 = wc := ⟨_, rfl⟩
        clear rE rS rT x0 x1 x2 y0 y1 y2 y3 y4 y5 y6 y7 y8 t0 t1 t2 t3 t4 t5 t6 t7 t8 o0 o1 o2 o3 o4 o5 o6 o7 o8 lE lS lT lO
        clear rO HIv1
        have rO := rO2
        clear rO2
        clear q0 q1 q2 q3 q4 q5 q6 q7 q8
        have rE := rEc.ext HB2
        have rS := rSc.ext HB2
        have rT := rTc.ext HB2
        obtain ⟨x0, x1, x2⟩ := rE.three
        obtain ⟨y0, y1, y2, y3, y4, y5, y6, y7, y8⟩ := rS.nine
        obtain ⟨t0, t1, t2, t3, t4, t5, t6, t7, t8⟩ := rT.nine
        obtain ⟨o0, o1, o2, o3, o4, o5, o6, o7, o8⟩ := rO.nine
        have lE := rE.lt
        have lS := rS.lt
        have lT := rT.lt
        have lO := rO.lt
        have q0 := rO.free 0
        have q1 := rO.free 1
        have q2 := rO.free 2
        have q3 := rO.free 3
        have q4 := rO.free 4
        have q5 := rO.free 5
        have q6 := rO.free 6
        have q7 := rO.free 7
        have q8 := rO.free 8
        have HOv1 : Ints (fun b => b ≠ Bo) wk2 (.slice oa s.outl.length ocap) s.outl := (HOvc.bound.ext HB2).mono fun b hb => by have := hb.2; have := HBo.out; omega
        go_upto_if 45 with fail
        go_cut [] (fun wx => Below w2.heap.size w2 wx ∧ ∃ ov2 : Value, Row wx Bo 28 [.int .i64 n, iv2, ov2, .int .i64 h0, .int .i64 h1, .int .i64 h2, .int .i64 h3, .int .i64 h4, .slice none 0 0] ∧ Ints (fun b => b ≠ Bo) wx iv2 (if c1 = true then [1, 0, 2] else s.inl) ∧ Ints (fun b => b ≠ Bo) wx ov2 (if c2 = true then [2, 1] else s.outl))
        case first =>
          cases c2 with
          | true =>
            go_wp2_with fail
            go_meet
            refine ⟨ext_alloc' (HB2.setCell (by show _ ≤ Bo; have := HBo.out; omega) _) _, _, (rO.set 2 _).alloc _, ?_, ?_⟩
            · exact (HIv2.set_ (j := 2)).ext (ext_alloc _ _)
            · have h := (lit2_ints (wk2.setCell ⟨Bo, 2, none⟩ (.slice (some ⟨wk2.heap.size, 0, none⟩) 2 2))).mono (S' := fun b => b ≠ Bo) (fun b hb => by simp at hb; omega)
              rw [World.size_setCell] at h
              exact h
          | false =>
            go_wp2_with fail
            go_meet
            exact ⟨HB2, _, rO, HIv2, HOv1⟩
        case rest =>
          obtain ⟨HB3, ov2, rO2, HIv3, HOv3⟩ := hcut
          obtain ⟨wk3, rfl⟩ : ∃ wk3 : World, wk3 = wc := ⟨_, rfl⟩
          clear rE rS rT x0 x1 x2 y0 y1 y2 y3 y4 y5 y6 y7 y8 t0 t1 t2 t3 t4 t5 t6 t7 t8 o0 o1 o2 o3 o4 o5 o6 o7 o8 lE lS lT lO
          clear rO HIv2 HOv1
          have rO := rO2
          clear rO2
          clear q0 q1 q2 q3 q4 q5 q6 q7 q8
          have rE := rEc.ext HB3
          have rS := rSc.ext HB3
          have rT := rTc.ext HB3
          obtain ⟨x0, x1, x2⟩ := rE.three
          obtain ⟨y0, y1, y2, y3, y4, y5, y6, y7, y8⟩ := rS.nine
          obtain ⟨t0, t1, t2, t3, t4, t5, t6, t7, t8⟩ := rT.nine
          obtain ⟨o0, o1, o2, o3, o4, o5, o6, o7, o8⟩ := rO.nine
          have lE := rE.lt
          have lS := rS.lt
          have lT := rT.lt
          have lO := rO.lt
          have q0 := rO.free 0
          have q1 := rO.free 1
          have q2 := rO.free 2
          have q3 := rO.free 3
          have q4 := rO.free 4
          have q5 := rO.free 5
          have q6 := rO.free 6
          have q7 := rO.free 7
          have q8 := rO.free 8
          go_upto_if 50 with fail
          go_cut [] (fun wx => Below w2.heap.size w2 wx ∧ ∃ k0 k1 k2 k3 k4 : Int, Row wx Bo 28 [.int .i64 n, iv2, ov2, .int .i64 k0, .int .i64 k1, .int .i64 k2, .int .i64 k3, .int .i64 k4, .slice none 0 0] ∧ Ints (fun b => b ≠ Bo) wx iv2 (if c1 = true then [1, 0, 2] else s.inl) ∧ Ints (fun b => b ≠ Bo) wx ov2 (if c2 = true then [2, 1] else s.outl) ∧ [k0, k1, k2, k3, k4] = (if c3 = true then t.hears else s.hears))
          case first =>
            cases c3 with
            | true =>
              go_wp2_with fail
              go_meet
              exact ⟨((((HB3.setCell (by show _ ≤ Bo; have := HBo.out; omega) _).setCell (by show _ ≤ Bo; have := HBo.out; omega) _).setCell (by show _ ≤ Bo; have := HBo.out; omega) _).setCell (by show _ ≤ Bo; have := HBo.out; omega) _).setCell (by show _ ≤ Bo; have := HBo.out; omega) _, g0, g1, g2, g3, g4, ((((rO.set 3 (.int .i64 g0)).set 4 (.int .i64 g1)).set 5 (.int .i64 g2)).set 6 (.int .i64 g3)).set 7 (.int .i64 g4), HIv3.set_.set_.set_.set_.set_, HOv3.set_.set_.set_.set_.set_, GH.out.symm⟩
            | false =>
              go_wp2_with fail
              go_meet
              exact ⟨HB3, h0, h1, h2, h3, h4, rO, HIv3, HOv3, HH.out.symm⟩
          case rest =>
            obtain ⟨HB4, k0, k1, k2, k3, k4, rO2, HIv4, HOv4, HK⟩ := hcut
            obtain ⟨wk4, rfl⟩ : ∃ wk4 : World, wk4 = wc := ⟨_, rfl⟩
            clear rE rS rT x0 x1 x2 y0 y1 y2 y3 y4 y5 y6 y7 y8 t0 t1 t2 t3 t4 t5 t6 t7 t8 o0 o1 o2 o3 o4 o5 o6 o7 o8 lE lS lT lO
            clear rO HIv3 HOv3
            have rO := rO2
            clear rO2
            clear q0 q1 q2 q3 q4 q5 q6 q7 q8
            have rE := rEc.ext HB4
            have rS := rSc.ext HB4
            have rT := rTc.ext HB4
            obtain ⟨x0, x1, x2⟩ := rE.three
            obtain ⟨y0, y1, y2, y3, y4, y5, y6, y7, y8⟩ := rS.nine
            obtain ⟨t0, t1, t2, t3, t4, t5, t6, t7, t8⟩ := rT.nine
            obtain ⟨o0, o1, o2, o3, o4, o5, o6, o7, o8⟩ := rO.nine
            have lE := rE.lt
            have lS := rS.lt
            have lT := rT.lt
            have lO := rO.lt
            have q0 := rO.free 0
            have q1 := rO.free 1
            have q2 := rO.free 2
            have q3 := rO.free 3
            have q4 := rO.free 4
            have q5 := rO.free 5
            have q6 := rO.free 6
            have q7 := rO.free 7
            have q8 := rO.free 8
            have HK := Lib.hid HK
            obtain ⟨L, hLL⟩ : ∃ L, L = freeE e s.vars.length := ⟨_, rfl⟩
            have F2 := F1.out
            rw [← hLL] at F2
            have F2 := Lib.hid F2
            have HLL := Lib.hid hLL
            have hLm := Lib.hid (show ∀ x ∈ L, 0 ≤ x ∧ x < s.vars.length from fun x hx => by have := (mem_freeE e).1 (hLL ▸ hx); exact ⟨this.1, this.2.1⟩)
            clear hLL F1
            have CF := Lib.hid (freeVI_calls (TTc.ext HB4) (HEc.ext HB4) (Nat.le_trans HSZ.out (by decide)) s.vars.length F2.out)
            go_wp2_with fail
            have rO4lt := Lib.hid lO
            refine CF.out.mono ?_
            rintro _ wf ⟨_, rfl, hz, u1, rfl, HL1⟩
            have HL0 := HL1
            obtain ⟨la, lcap, rfl, _, _, hlm, _⟩ := HL1
            unfold maxLen at hlm
            have HL1 := HL0
            clear HL0
            have HB5 := ext_trans HB4 hz
            have rO1 := rO.ext hz
            have HIv5 := HIv4.ext hz
            have HOv5 := HOv4.ext hz
            clear hz
            clear rE rS rT x0 x1 x2 y0 y1 y2 y3 y4 y5 y6 y7 y8 t0 t1 t2 t3 t4 t5 t6 t7 t8 o0 o1 o2 o3 o4 o5 o6 o7 o8 lE lS lT lO
            clear HIv4 HOv4
            clear q0 q1 q2 q3 q4 q5 q6 q7 q8
            clear rO
            have rO := rO1
            clear rO1
            have rE := rEc.ext HB5
            have rS := rSc.ext HB5
            have rT := rTc.ext HB5
            obtain ⟨x0, x1, x2⟩ := rE.three
            obtain ⟨y0, y1, y2, y3, y4, y5, y6, y7, y8⟩ := rS.nine
            obtain ⟨t0, t1, t2, t3, t4, t5, t6, t7, t8⟩ := rT.nine
            obtain ⟨o0, o1, o2, o3, o4, o5, o6, o7, o8⟩ := rO.nine
            have lE := rE.lt
            have lS := rS.lt
            have lT := rT.lt
            have lO := rO.lt
            have q0 := rO.free 0
            have q1 := rO.free 1
            have q2 := rO.free 2
            have q3 := rO.free 3
            have q4 := rO.free 4
            have q5 := rO.free 5
            have q6 := rO.free 6
            have q7 := rO.free 7
            have q8 := rO.free 8
            obtain ⟨i0, hi, hz0, hz1, hz2⟩ := info_parts info_int
            have hmL := HL.out
            have HZ := Lib.hid (show i0.bytes * s.vars.length ≤ 281474976710656 by rw [hz2]; omega)
            obtain ⟨Gv, hGv⟩ : ∃ G, G = wf.heap.size := ⟨_, rfl⟩
            have hGB : Bo < Gv := by omega
            have hsz4 := hGB
            have HGV := Lib.hid hGv
            clear hGv
            go_wp2_with (at_make; refine wpList_make_full _ rfl _ _ 25 rfl wf.heap.size 3 i0 (.int .i64 0) 1 Tryd.underlying25 hi hz0 hz1 .i64 .i64 _ _ s.vars.length rfl rfl rfl rfl HZ.out (by unfold maxLen; omega) (Nat.le_refl _) ?_; intro wg ho1 hg1; have rO2 := rO.grown hg1 (by simp); have lO2 := rO2.lt; obtain ⟨p0, p1, p2, p3, p4, p5, p6, p7, p8⟩ := rO2.nine; have f8 := rO2.free 8)
            rw [← HGV.out]
            rw [← HGV.out] at ho1
            have rG0 := (Row.of_own ho1).1
            have hrep : (madeCells (Value.int .i64 0).cells (s.vars.length * 1)).toList = (setAll s.vars []).map (Value.int .i64) := by
              rw [Nat.mul_one]
              show (madeCells #[.int .i64 0] s.vars.length).toList = _
              rw [toList_madeCells_one]
              simp [setAll]
            rw [hrep] at rG0
            clear ho1 hrep
            obtain ⟨wh, hwh⟩ : ∃ w, w = wg.setCell ⟨Bo, 8, none⟩ (.slice (some ⟨Gv, 0, none⟩) s.vars.length s.vars.length) := ⟨_, rfl⟩
            rw [← hwh]
            have hbg : Below wf.heap.size wf wg := (Below.refl _ _).grown hg1 (Nat.le_refl _) (by simp)
            have HB6 : Below w2.heap.size w2 wh := by rw [hwh]; exact (ext_trans HB5 hbg).setCell (by show _ ≤ Bo; have := HBo.out; omega) _
            have rO6 := rO2.set 8 (.slice (some ⟨Gv, 0, none⟩) s.vars.length s.vars.length)
            have rG6 : Row wh Gv 3 ((setAll s.vars []).map (Value.int .i64)) := by rw [hwh]; exact rG0.agree (S := fun b => b = Gv) (.of_grown (grownBy_setCell wg Bo 8 _) fun b hb e => by cases e; omega) rfl
            rw [← hwh] at rO6
            have mv : ∀ v l, Ints (fun b => b ≠ Bo) wf v l → Ints (fun b => b ≠ Bo ∧ b ≠ Gv) wh v l := by
              intro v l h
              rw [hwh]
              exact ((h.bound.ext hbg).agree (.of_grown (grownBy_setCell wg Bo 8 _) fun b hb e => hb.1 (by cases e; rfl))).mono fun b hb => ⟨hb.1, by have := hb.2; have := HGV.out; omega⟩
            have HIv6 := mv _ _ HIv5
            have HOv6 := mv _ _ HOv5
            have HL6 := mv _ _ (HL1.mono (S' := fun b => b ≠ Bo) fun b hb => by have := rO4lt.out; omega)
            clear mv hbg hwh rG0 hg1 rO2 lO2 p0 p1 p2 p3 p4 p5 p6 p7 p8 f8 HIv5 HOv5 HL1
            clear rE rS rT x0 x1 x2 y0 y1 y2 y3 y4 y5 y6 y7 y8 t0 t1 t2 t3 t4 t5 t6 t7 t8 o0 o1 o2 o3 o4 o5 o6 o7 o8 lE lS lT lO
            clear q0 q1 q2 q3 q4 q5 q6 q7 q8
            clear rO
            obtain ⟨_, _, hle, lad, ll1, ll2, lc, lwf⟩ := HL6
            simp only [Value.slice.injEq, true_and] at hle
            obtain ⟨rfl, rfl⟩ := hle
            have HL6 : Ints (fun b => b ≠ Bo ∧ b ≠ Gv) wh (.slice la L.length lcap) L := ⟨la, lcap, rfl, lad, ll1, ll2, lc, lwf⟩
            have HQL := Lib.hid (idx_one Tryd.underlying25 hi hz1 lad)
            have HVQ := HVvc
            obtain ⟨_, _, hve, vad, _, vl2, vc, _⟩ := HVvc
            simp only [Value.slice.injEq, true_and] at hve
            obtain ⟨rfl, rfl⟩ := hve
            have HQV := Lib.hid (idx_one Tryd.underlying25 hi hz1 vad)
            have HVC := Lib.hid vc
            unfold maxLen at ll2
            have HQG := Lib.hid (fun (j : Nat) (hj : j < s.vars.length) => idx_one (S := fun b => b = Gv) (w := wh) Tryd.underlying25 hi hz1 (a := some ⟨Gv, 0, none⟩) (n := s.vars.length) (cap := s.vars.length) (.inr ⟨Gv, 0, rfl, rG6.lt, rfl⟩) j hj)
            clear lc lwf vc
            go_loopw [69] (fun i wr => ∃ k : Nat, k ≤ L.length ∧ i = .int .i64 k ∧ Below w2.heap.size w2 wr ∧ Row wr Bo 28 [.int .i64 n, iv2, ov2, .int .i64 k0, .int .i64 k1, .int .i64 k2, .int .i64 k3, .int .i64 k4, .slice (some ⟨Gv, 0, none⟩) s.vars.length s.vars.length] ∧ Row wr Gv 3 ((setAll s.vars (L.take k)).map (Value.int .i64)) ∧ Ints (fun b => b ≠ Bo ∧ b ≠ Gv) wr iv2 (if c1 = true then [1, 0, 2] else s.inl) ∧ Ints (fun b => b ≠ Bo ∧ b ≠ Gv) wr ov2 (if c2 = true then [2, 1] else s.outl) ∧ Ints (fun b => b ≠ Bo ∧ b ≠ Gv) wr (.slice la L.length lcap) L) (fun i _ => L.length - (intOf i).toNat)
            case atStart => exact ⟨0, Nat.zero_le _, rfl, HB6, rO6, rG6, HIv6, HOv6, HL6⟩
            case round =>
              obtain ⟨k, hk, rfl, HB7, rO, rG, HI7, HO7, HL7⟩ := hrel
              clear HB6 rO6 rG6 HIv6 HOv6 HL6
              have rE := rEc.ext HB7
              have rS := rSc.ext HB7
              have rT := rTc.ext HB7
              obtain ⟨x0, x1, x2⟩ := rE.three
              obtain ⟨y0, y1, y2, y3, y4, y5, y6, y7, y8⟩ := rS.nine
              obtain ⟨t0, t1, t2, t3, t4, t5, t6, t7, t8⟩ := rT.nine
              obtain ⟨o0, o1, o2, o3, o4, o5, o6, o7, o8⟩ := rO.nine
              have lE := rE.lt
              have lS := rS.lt
              have lT := rT.lt
              have lO := rO.lt
              by_cases hlt : k < L.length
              · have q := HQL.out k hlt
                have HL7' := HL7
                obtain ⟨_, _, hle, _, _, _, lc, _⟩ := HL7
                simp only [Value.slice.injEq, true_and] at hle
                obtain ⟨rfl, rfl⟩ := hle
                have c := lc k hlt
                have hx := hLm.out _ (nth_mem hlt)
                obtain ⟨j, hj⟩ : ∃ j : Nat, nth L k = (j : Int) := ⟨(nth L k).toNat, by omega⟩
                rw [hj] at c hx
                have HJ := Lib.hid hj
                clear hj lc
                have hj2 : j < s.vars.length := by omega
                have qv := HQV.out j hj2
                have cv := cells_at vad HB7 HVC.out j hj2
                have qg := HQG.out j hj2
                rw [adr_add, Nat.zero_add] at qg
                have hln := setAll_length s.vars (L.take k)
                have gc := rG.cell (j := j) (u := .int .i64 (nth (setAll s.vars (L.take k)) j)) (by rw [List.getElem?_map, get?_nth (by omega)]; rfl)
                have gf := rG.free j
                have HLN := Lib.hid hln
                have hx0 := hx.1
                have hx1 := hx.2
                clear hln hx
                go_wp2_with fail
                go_region
                all_goals
                  go_wp2_with fail
                  go_roundw
                  case rel =>
                    refine ⟨k + 1, by omega, by go_num, (HB7.setCell (by show _ ≤ Gv; have := HBo.out; omega) _).drew, rO.agree (S := fun b => b = Bo) (set_agree fun b hb => by omega) rfl, ?_, HI7.agree (set_agree fun b hb => hb.2), HO7.agree (set_agree fun b hb => hb.2), HL7'.agree (set_agree fun b hb => hb.2)⟩
                    have h := rG.set j (.int .i64 (nth s.vars j))
                    rw [take_nth hlt, setAll_snoc, HJ.out, show ((j : Int)).toNat = j by omega, List.map_set]
                    exact h
                  case measure => simp [intOf]; omega
              · obtain rfl : k = L.length := by omega
                rw [List.take_length] at rG
                have C3 := Lib.hid (fun W (hW : Below wr.heap.size wr W) => evalV_calls ((TTc.ext HB7).ext hW) ((HEc.ext HB7).ext hW) ((HSc.ext HB7).ext hW) E1.out (by have := HSZ.out; omega))
                have HVo : Ints (fun _ => True) wr (.slice (some ⟨Gv, 0, none⟩) s.vars.length s.vars.length) (setAll s.vars L) := by
                  have h := rG.ints (by rw [setAll_length]; unfold maxLen; omega) (fun x hx => by
                    obtain ⟨j, hj, rfl⟩ := List.getElem_of_mem hx
                    rw [← nth_eq hj]
                    rw [setAll_length] at hj
                    rcases setAll_nth s.vars L j hj with e1 | ⟨e1, _⟩
                    · rw [e1]; exact HVQ.wf _ (nth_mem hj)
                    · rw [e1]; unfold WF; omega)
                  rw [setAll_length] at h
                  exact h.all
                have HSo := otherS_scV (s := s) (t := t) HC1.out HC2.out HC3.out HN.out HK.out HI7 HO7 HLL.out HVo
                have C4 := Lib.hid (fun W (hW : Below wr.heap.size wr W) => evalV_calls ((TTc.ext HB7).ext hW) ((HEc.ext HB7).ext hW) (HSo.ext hW) E2.out (by have := HSZ.out; omega))
                have hrw := Below.refl wr.heap.size wr
                go_wp2_with fail
                refine (C3.out _ hrw).mono ?_
                rintro _ wm ⟨_, rfl, hm, rfl⟩
                have rOm := rO.ext hm
                have HB8 := ext_trans HB7 hm
                clear x0 x1 x2 y0 y1 y2 y3 y4 y5 y6 y7 y8 t0 t1 t2 t3 t4 t5 t6 t7 t8 o0 o1 o2 o3 o4 o5 o6 o7 o8 lE lS lT lO
                clear rO rE rS rT
                have rO := rOm
                clear rOm
                have rE := rEc.ext HB8
                have rS := rSc.ext HB8
                have rT := rTc.ext HB8
                obtain ⟨x0, x1, x2⟩ := rE.three
                obtain ⟨y0, y1, y2, y3, y4, y5, y6, y7, y8⟩ := rS.nine
                obtain ⟨t0, t1, t2, t3, t4, t5, t6, t7, t8⟩ := rT.nine
                obtain ⟨o0, o1, o2, o3, o4, o5, o6, o7, o8⟩ := rO.nine
                have lE := rE.lt
                have lS := rS.lt
                have lT := rT.lt
                have lO := rO.lt
                go_wp2_with fail
                refine (C4.out _ hm).mono ?_
                rintro _ wn ⟨_, rfl, hm2, rfl⟩
                have HB9 := ext_trans HB8 hm2
                go_wp2_with fail
                refine (AWc.out _ HB9).mono ?_
                rintro _ wp ⟨_, rfl, hm3, rfl⟩
                have HB10 := ext_trans HB9 hm3
                go_wp2
                go_ret
                exact .mk (ext_trans EC HB10) rfl
end Go.Proofs.YtifkkajgcekafaaDoor
