/- The program's Propagate. -/
import Derived.Test.YtifcgcdbebgahaaClZb
namespace Go.Proofs.Ytifcgcdbebgahaa
set_option linter.unusedVariables false
open Go.RowKit
attribute [local go_sem ↓] Go.wp_at_zero Go.wp_at_succ

theorem unit_cases (l c : List Int) : (unitS l c = (0, true, true) ∧ trueP c l = false ∧ withoutP c l = []) ∨ (∃ y, unitS l c = (y, false, true) ∧ trueP c l = false ∧ withoutP c l = [y]) ∨ (unitS l c = (0, false, false) ∧ (trueP c l = true ∨ 2 ≤ (withoutP c l).length)) := by
  cases h : trueP c l with
  | true => exact .inr (.inr ⟨unit_true h, .inl rfl⟩)
  | false =>
    match hw : withoutP c l with
    | [] => exact .inl ⟨by unfold unitS; rw [if_neg (by rw [h]; simp), hw], rfl, rfl⟩
    | [y] => exact .inr (.inl ⟨y, by unfold unitS; rw [if_neg (by rw [h]; simp), hw], rfl, rfl⟩)
    | a :: b :: t => exact .inr (.inr ⟨unit_many (by rw [hw]; simp), .inr (by simp)⟩)
theorem AOK.snoc {n : Int} {l : List Int} {y : Int} (h : AOK n l) (hg : goodP n y = true) (h1 : y ∉ l) (h2 : -y ∉ l) : AOK n (l ++ [y]) := by
  refine ⟨fun z hz => ?_, fun i j hij hj => ?_⟩
  · rcases List.mem_append.1 hz with h' | h'
    · exact h.good z h'
    · rw [List.mem_singleton.1 h']; exact hg
  · have hn : ∀ k, k < l.length → nth (l ++ [y]) k = nth l k := fun k hk => by simp [nth, List.getElem?_append_left hk]
    simp at hj
    by_cases e : j < l.length
    · rw [hn i (by omega), hn j e]
      exact h.once i j hij e
    · obtain rfl : j = l.length := by omega
      have hi : i < l.length := hij
      have hy : nth (l ++ [y]) l.length = y := by simp [nth]
      rw [hn i hi, hy]
      have hm := nth_mem hi
      exact ⟨fun e => h1 (e ▸ hm), fun e => h2 (e ▸ hm)⟩
theorem litOf_new {n : Int} {l : List Int} {y : Int} (hn : n ≤ 100000) (h : AOK n l) (hg : goodP n y = true) (h1 : y ∉ l) (h2 : -y ∉ l) : litOf l (varP y) = none := by
  cases e : litOf l (varP y) with
  | none => rfl
  | some z =>
    obtain ⟨h3, h4⟩ := litOf_some e
    rcases (var_same hn hg (h.good z h3)).1 h4.symm with rfl | rfl
    · exact absurd h3 h1
    · exact absurd h3 h2
/-- The literals that a clause forces are new. -/
theorem forced_new {n : Int} {l c : List Int} {y : Int} (hn : n ≤ 100000) (hc : ∀ z ∈ c, goodP n z = true) (ht : trueP c l = false) (hw : withoutP c l = [y]) : y ∈ c ∧ y ∉ l ∧ -y ∉ l := by
  have hy : y ∈ withoutP c l := by rw [hw]; simp
  unfold withoutP at hy
  obtain ⟨h1, h2⟩ := List.mem_filter.1 hy
  refine ⟨h1, fun h => ?_, fun h => ?_⟩
  · rw [trueP_iff.2 ⟨y, h1, h⟩] at ht; cases ht
  · rw [neg_wrap hn (hc y h1), memB_iff.2 h] at h2; cases h2
theorem var_wf0 {n y : Int} (hn : n ≤ 100000) (h : goodP n y = true) : WF y := by
  have := goodP_iff.1 h
  exact WF.small (by omega)
theorem owns_base {w : World} {base base' : Nat} {e : TypeId} {size : Nat} {v : Value} {n : Nat} {xs : List Value} (h : w.ownsRow base' e size v n xs) (hb : base ≤ base') : w.ownsRow base e size v n xs := by
  refine ⟨h.1, ?_⟩
  rcases h.2 with h | ⟨g, cap, cur, rfl, hb', rest⟩
  · exact .inl h
  · exact .inr ⟨g, cap, cur, rfl, by omega, rest⟩
def agN : Value → Nat
  | .bool true => 1
  | _ => 0

set_option maxRecDepth 100000 in
set_option maxHeartbeats 4000000 in
theorem propagate_calls {S S' : Nat → Prop} {w : World} {va vb : Value} {m : Mx} {x : List Int} (ha : MatV S w va m) (hx : Ints S' w vb x) (hxl : x.length ≤ 100000) :
    Calls Try.prog 18 #[va, vb] w (Post w (PProp w.heap.size (propS m x))) := by
  obtain ⟨cols, ll⟩ := m
  obtain ⟨ra, rfl, la⟩ := ha
  obtain ⟨aa, acap, rfl, aad, al1, alm⟩ := la.form
  obtain ⟨ab, nb, rfl, bd, bl1, blm⟩ := hx.form
  dsimp only at la al1 aad ⊢
  unfold maxLen at alm
  have ex := ext_alloc w (.cells #[.int .i64 cols, .slice aa ll.length acap] 24)
  have r0 := row_new w [.int .i64 cols, .slice aa ll.length acap] 24
  have KC := Lib.hid (assignment_calls (va := .agg #[.int .i64 cols, .slice aa ll.length acap]) (m := ⟨cols, ll⟩) ⟨_, rfl, la.ext ex⟩ (hx.ext ex) hxl)
  obtain ⟨c1, hc1⟩ : ∃ c1, c1 = checkC ⟨cols, ll⟩ := ⟨_, rfl⟩
  obtain ⟨c2, hc2⟩ : ∃ c2, c2 = assignE cols x := ⟨_, rfl⟩
  have HC1 := Lib.hid hc1
  have HC2 := Lib.hid hc2
  have LA := Lib.hid la
  have HX := Lib.hid hx
  clear la hx hc1 hc2
  go_enter Try.func18, Try.ntmps18
  go_wp2_with fail
  refine KC.out.mono ?_
  rintro _ w1 ⟨r, rfl, hb1, hp⟩
  have hx1 := ext_trans ex hb1
  have R0 := r0.ext hb1
  unfold PAssign at hp
  dsimp only at hp
  rw [← HC1.out, ← HC2.out] at hp
  clear KC r0 ex
  by_cases h1 : ¬ c1 = 0
  · rw [if_pos h1] at hp
    subst hp
    have e1 : (c1 != 0) = true := by simp [h1]
    have RR := Lib.hid (propS_err (m := ⟨cols, ll⟩) (x := x) (HC1.out ▸ h1))
    rw [← HC1.out] at RR
    clear h1
    go_wp2
    refine bodyPost_ret (v := .tuple #[.slice none 0 0, .slice none 0 0, .int .i64 0, .int .i64 c1]) (by simp [results, Try.results18, go_sem]) rfl ?_
    exact .mk hx1 (.none RR.out)
  have h1 := Classical.not_not.1 h1
  rw [if_neg (by simp [h1])] at hp
  have H1 : Hid (checkC ⟨cols, ll⟩ = 0) := Lib.hid (HC1.out.symm.trans h1)
  have OK := Lib.hid (checkC_ok.1 H1.out)
  clear h1
  by_cases h2 : ¬ c2 = 0
  · rw [if_pos h2] at hp
    subst hp
    have e2 : (c2 != 0) = true := by simp [h2]
    have RR := Lib.hid (propS_vec (m := ⟨cols, ll⟩) (x := x) H1.out (HC2.out ▸ h2))
    dsimp only at RR
    rw [← HC2.out] at RR
    clear h2
    go_wp2
    refine bodyPost_ret (v := .tuple #[.slice none 0 0, .slice none 0 0, .int .i64 0, .int .i64 c2]) (by simp [results, Try.results18, go_sem]) rfl ?_
    exact .mk hx1 (.none RR.out)
  have h2 := Classical.not_not.1 h2
  rw [if_neg (by simp [h2])] at hp
  obtain ⟨b, hb0, rfl, hM⟩ := hp
  have H2 : Hid (assignE cols x = 0) := Lib.hid (HC2.out.symm.trans h2)
  have RR := Lib.hid (propS_ok (m := ⟨cols, ll⟩) (x := x) H1.out H2.out)
  dsimp only at RR
  have hc0 : cols ≤ 4096 := OK.out.c1
  have hll : ll.length ≤ 32768 := OK.out.r1
  have AO := Lib.hid ((assignE_ok (by omega)).1 H2.out)
  have HGD : Hid (∀ r ∈ ll, ∀ y ∈ r, goodP cols y = true) := Lib.hid OK.out.good
  have HWX := Lib.hid HX.out.wf
  have hbl := hM.lt
  have hb0' : w.heap.size + 1 ≤ b := by simpa using hb0
  have h0l := R0.lt
  obtain ⟨B, hB⟩ : ∃ B, B = w1.heap.size := ⟨_, rfl⟩
  rw [← hB] at hbl h0l
  have hwB : w.heap.size ≤ B := by omega
  have e1 : (c1 != 0) = false := by rw [HC1.out, H1.out]; rfl
  have KCl := Lib.hid (cloneI_calls (HX.out.ext hx1) (by omega))
  rw [← hB] at KCl
  have hxB : Below w.heap.size w w1 := hx1
  have HM := Lib.hid hM
  have HB := Lib.hid hB
  clear h2 hM hB OK hx1 hb1
  go_wp2_with fail
  refine KCl.out.mono ?_
  rintro _ w2 ⟨v1, rfl, hb2, hO1⟩
  have hx2 := ext_trans hxB hb2
  have R0 := R0.ext hb2
  have HM := Lib.hid (HM.out.ext hb2)
  have hs2 : B ≤ w2.heap.size := by rw [HB.out]; exact hb2.size
  have HO1 := Lib.hid hO1
  have L1 := (lit_ints w2 w2.heap.size rfl [-1] 3 (by simp) (by simp))
  simp only [List.map_cons, List.map_nil, List.length_cons, List.length_nil, Nat.zero_add] at L1
  have KR := Lib.hid (repeat_calls L1 x.length hxl)
  clear KCl hb2 hO1 L1
  go_wp2_with fail
  refine KR.out.mono ?_
  rintro _ w3 ⟨v2, rfl, hb3, hO2⟩
  have hb3' := ext_trans (ext_alloc w2 (.cells #[.int .i64 (-1)] 3)) hb3
  have hx3 := ext_trans hx2 hb3'
  have R0 := R0.ext hb3'
  have HM := Lib.hid (HM.out.ext hb3')
  have hO1 := owns_ext HO1.out hb3'
  have hO2' := owns_base (base := B) hO2 (by simp; omega)
  have hT : Two B w3 v1 x v2 (List.replicate x.length (-1)) := ⟨hO1, hO2', fun k hk e => by
    have h1 := (HO1.out.lt k hk).2
    have h2 := (hO2.lt k e).1
    simp at h2
    omega⟩
  obtain ⟨E, hE⟩ : ∃ E, E = unitsP ll x := ⟨_, rfl⟩
  have HEP : Hid (propS ⟨cols, ll⟩ x = (E, 0)) := Lib.hid (by rw [hE]; exact RR.out)
  have HE0 : Hid (E = unitsN ll (ll.length + 1) x (List.replicate x.length (-1))) := Lib.hid hE
  obtain ⟨rs0, hrs0⟩ : ∃ rs0 : List Int, rs0 = List.replicate x.length (-1) := ⟨_, rfl⟩
  rw [← hrs0] at HE0 hT
  have hrl : rs0.length ≤ x.length := by rw [hrs0]; simp
  have HWR : Hid (∀ y ∈ rs0, WF y) := Lib.hid (fun y hy => by rw [hrs0] at hy; rw [List.eq_of_mem_replicate hy]; exact WF.small (by omega))
  have hop : openN ll x ≤ ll.length := List.countP_le_length
  have hBz : x.length + openN ll x ≤ x.length + ll.length := by omega
  have hRz : rs0.length ≤ x.length + ll.length := by omega
  have HT := Lib.hid hT
  have hxw : B ≤ w3.heap.size := Nat.le_trans hs2 hb3'.size
  have HN0 : Hid (MapV keyI w3 b (litV x) x.length) := HM
  have HIA := Lib.hid (fun (n : Nat) (hn : n < ll.length) => nthL_mem hn)
  obtain ⟨i0, hi, hz1, hz2, hz3⟩ := info_parts info_ints
  have HQ := Lib.hid (fun (W : World) (hW : Below w.heap.size w W) => idx_one Try.underlying22 hi hz2 (aad.agree (.of_ext hW)))
  clear hi hz1 hz2 hz3 hO1 hO2 hO2' HO1 hE hrs0 hT hb3' hb3 KR hx2 hs2 hxB HM RR HWX
  obtain ⟨q0, q1⟩ := R0.two
  go_wp2
  go_loopw [10, 11, 12] (fun v1 v2 ag wr => ∃ (lits rs : List Int) (f : Nat) (g : Bool), ag = .bool g ∧ Below w.heap.size w wr ∧ B ≤ wr.heap.size ∧ Row wr w.heap.size 24 [.int .i64 cols, .slice aa ll.length acap] ∧ Hid (MapV keyI wr b (litV lits) lits.length) ∧ Hid (Two B wr v1 lits v2 rs) ∧ (g = true → Hid (E = unitsN ll (f + 1) lits rs) ∧ openN ll lits ≤ f) ∧ (g = false → Hid (E = ((lits, rs), -1))) ∧ lits.length + openN ll lits ≤ x.length + ll.length ∧ rs.length ≤ x.length + ll.length ∧ rs.length ≤ lits.length ∧ Hid (AOK cols lits) ∧ Hid (∀ y ∈ rs, WF y)) (fun v1 _ ag _ => 2 * (x.length + ll.length + 1 - lenOf v1) + agN ag)
  case atStart => exact ⟨x, rs0, ll.length, true, rfl, hx3, hxw, R0, HN0, HT, fun _ => ⟨HE0, hop⟩, (fun h => (by cases h)), hBz, hRz, hrl, AO, HWR⟩
  case round =>
    clear HN0 HT HE0 hop hBz hRz hrl HWR R0 q0 q1 hx3 hxw AO
    obtain ⟨lits, rs, f, g, rfl, hbr, hBs, hR0, hM, hT, hE1, hE2, hB, hR, hRL, hA, hW⟩ := hrel
    obtain ⟨q0, q1⟩ := hR0.two
    have I1 := Ints.of_own hT.out.o1 (fun z hz => var_wf0 (by omega) (hA.out.good z hz))
    have I2 := Ints.of_own hT.out.o2 hW.out
    obtain ⟨a1, c1, rfl, _⟩ := I1.form
    obtain ⟨a2, c2, rfl, _⟩ := I2.form
    cases g with
    | false =>
      have HE := hE2 rfl
      have HI := Lib.hid (And.intro I1 I2)
      clear hE1 hE2 I1 I2
      go_wp2
      refine bodyPost_ret (v := .tuple #[.slice a1 lits.length c1, .slice a2 rs.length c2, .int .i64 (-1), .int .i64 0]) (by simp [results, Try.results18, go_sem]) rfl ?_
      rw [HEP.out, HE.out]
      exact .mk hbr ⟨_, _, _, _, rfl, HI.out.1.mono fun k hk => by omega, HI.out.2.mono fun k hk => by omega⟩
    | true =>
      obtain ⟨HE, hopf⟩ := hE1 rfl
      clear hE1 hE2
      obtain ⟨wo, hwo⟩ : ∃ wo : World, wo = wr := ⟨_, rfl⟩
      rw [← hwo] at hbr hBs hR0 hM hT q0 q1 I1 I2 ⊢
      have HI := Lib.hid (And.intro I1 I2)
      clear hwo I1 I2
      go_wp2
      have hxo := HQ.out wo hbr
      have HQW := Lib.hid hxo
      clear hxo
      have HST0 : Hid (stepP ll lits = stepFrom ll lits 0) := Lib.hid rfl
      go_loopw [10, 11, 12, 37] (fun s1 s2 s3 i wr => ∃ k : Nat, k ≤ ll.length ∧ s1 = .slice a1 lits.length c1 ∧ s2 = .slice a2 rs.length c2 ∧ s3 = .bool false ∧ i = .int .i64 k ∧ QW wo wr ∧ Hid (stepP ll lits = stepFrom ll lits k)) (fun _ _ _ i _ => ll.length - (intOf i).toNat)
      case atStart => exact ⟨0, Nat.zero_le _, rfl, rfl, rfl, rfl, .refl _, HST0⟩
      case round =>
        clear HST0 q0 q1
        obtain ⟨k, hk, rfl, rfl, rfl, rfl, hQ, hF⟩ := hrel
        have hR1 := hR0.ext hQ.ext
        obtain ⟨q0, q1⟩ := hR1.two
        by_cases hlt : k < ll.length
        · have q := HQW.out k hlt
          obtain ⟨u, cu, iu⟩ := LA.out.at (ext_trans hbr hQ.ext) hlt
          have hgr := HGD.out _ (nthL_mem hlt)
          have hM1 := hM.out.ext hQ.ext
          have KU := Lib.hid ((unit_quiet hM1 iu (by omega) hA.out hgr).mono fun _ _ h => h.take)
          have HCS := Lib.hid (unit_cases lits (nthL ll k))
          have HFN := Lib.hid (fun y (ht : trueP (nthL ll k) lits = false) (hw : withoutP (nthL ll k) lits = [y]) => forced_new (n := cols) (by omega) hgr ht hw)
          have HHIT := Lib.hid (fun (ht : trueP (nthL ll k) lits = false) (h2 : (withoutP (nthL ll k) lits).length < 2) => hF.out.trans (stepFrom_hit hlt ht h2))
          have HTRUE := Lib.hid (fun (ht : trueP (nthL ll k) lits = true) => hF.out.trans (stepFrom_true hlt ht))
          have HMORE := Lib.hid (fun (ht : trueP (nthL ll k) lits = false) (h2 : ¬ (withoutP (nthL ll k) lits).length < 2) => hF.out.trans (stepFrom_more hlt ht h2))
          obtain ⟨us, hus⟩ : ∃ us, us = unitS lits (nthL ll k) := ⟨_, rfl⟩
          rw [← hus] at KU HCS
          have hb2 := ext_trans hbr hQ.ext
          have HGR := Lib.hid hgr
          have HIU := Lib.hid iu
          clear hus hM1 hgr iu hF
          go_wp2_with fail
          refine KU.out.mono ?_
          rintro _ w4 ⟨_, rfl, hq4, rfl⟩
          have hQ4 := hQ.trans hq4
          have hb4 := ext_trans hbr hQ4.ext
          have hR4 := hR0.ext hQ4.ext
          clear KU q cu q0 q1 hR1 hq4 hQ HIU
          obtain ⟨q0, q1⟩ := hR4.two
          rcases HCS.out with ⟨rfl, ht, hw⟩ | ⟨y, rfl, ht, hw⟩ | ⟨rfl, hor⟩
          · have hst := HHIT.out ht (by rw [hw]; simp)
            rw [hw] at hst
            have R : Hid (E = ((lits, rs), (k : Int))) := Lib.hid (by rw [HE.out, units_end (by rw [hst]; simp), hst])
            have hI := HI.out
            have HII := Lib.hid (And.intro (hI.1.ext hQ4.ext) (hI.2.ext hQ4.ext))
            clear hst hI ht hw HCS HFN HHIT HTRUE HMORE
            go_wp2
            refine bodyPost_ret (v := .tuple #[.slice a1 lits.length c1, .slice a2 rs.length c2, .int .i64 k, .int .i64 0]) (by simp [results, Try.results18, go_sem]) rfl ?_
            rw [HEP.out, R.out]
            exact .mk hb4 ⟨_, _, _, _, rfl, HII.out.1.mono fun k hk => by omega, HII.out.2.mono fun k hk => by omega⟩
          · have hst := HHIT.out ht (by rw [hw]; simp)
            rw [hw] at hst
            obtain ⟨hyc, hyl, hnyl⟩ := HFN.out y ht hw
            have hgy := HGR.out y hyc
            have HO := Lib.hid (step_open (l := ll) (lits := lits) (by rw [hst]; exact Int.natCast_nonneg k) (by rw [hst]))
            have HU := Lib.hid (units_go (rs := rs) (f := f) hst (Int.natCast_nonneg k))
            have HA2 := Lib.hid (hA.out.snoc hgy hyl hnyl)
            have hno := litOf_new (by omega) hA.out hgy hyl hnyl
            have HLS := Lib.hid (litV_some lits (varP y))
            rw [hno] at HLS
            have HLV := Lib.hid (litV_snoc (l := lits) (x := y) hno)
            have hwv := var_wf (by omega) hgy
            have hwy := var_wf0 (by omega) hgy
            obtain ⟨v, hv⟩ : ∃ v, v = varP y := ⟨_, rfl⟩
            have HV := Lib.hid (fun W => (hv ▸ (variable_quiet W y).mono fun _ _ h => h.take : Calls Try.prog 43 #[.int .i64 y] W fun e W' => ∃ u, e = .returned u ∧ QW W W' ∧ u = .int .i64 v))
            rw [← hv] at hwv HLS HLV
            have hW2 : Hid (∀ z ∈ rs ++ [(k : Int)], WF z) := Lib.hid (wf_snoc hW.out (WF.small (by omega)))
            have HM4 := Lib.hid (hM.out.ext hQ4.ext)
            have HT4 := Lib.hid (hT.out.ext hQ4.ext)
            have n1 : lits.length ≤ 200000 := by omega
            have n2 : rs.length ≤ 200000 := by omega
            have hs4 : B ≤ w4.heap.size := Nat.le_trans hBs hQ4.ext.size
            have hlm : lits.length < maxLen := by unfold maxLen; omega
            clear hst hno hv ht hw hyc hyl hnyl hgy HCS HFN HHIT HTRUE HMORE hA hW hM hT HI
            go_wp2_with fail
            refine (HV.out _).mono ?_
            rintro _ w5 ⟨_, rfl, hq5, rfl⟩
            have hb5 := ext_trans hb4 hq5.ext
            have HM5 := Lib.hid (HM4.out.ext hq5.ext)
            have hM5 := HM5.out
            have HT5 := Lib.hid (HT4.out.ext hq5.ext)
            have hR5 := hR4.ext hq5.ext
            have hs5 : B ≤ w5.heap.size := Nat.le_trans hs4 hq5.ext.size
            clear HM4 HT4 hR4 hb4 hs4 q0 q1 hq5 HV
            have fin : ∀ w6, MapV keyI w6 b (fun z => if z = v then some (.int .i64 y) else litV lits z) (if (litV lits v).isSome = true then lits.length else lits.length + 1) → w5.grownBy w6 (some b) → MapV keyI w6 b (litV (lits ++ [y])) (lits.length + 1) ∧ Two B w6 (.slice a1 lits.length c1) lits (.slice a2 rs.length c2) rs ∧ Row w6 w.heap.size 24 [.int .i64 cols, .slice aa ll.length acap] ∧ Below w.heap.size w w6 ∧ B ≤ w6.heap.size := fun w6 h6 hg6 => by
              rw [HLS.out, if_neg (by simp), HLV.out] at h6
              have hne : ∀ {v' : Value} {n : Nat} {e : TypeId} {xs : List Value}, w5.ownsRow B e 1 v' n xs → w6.ownsRow B e 1 v' n xs := fun h => owns_agree (S := fun k => B ≤ k) h (.of_grown hg6 fun k hk e => by cases e; omega) fun k hk => (h.lt k hk).1
              exact ⟨h6, ⟨hne HT5.out.o1, hne HT5.out.o2, HT5.out.ap⟩, hR5.grown hg6 (fun e => by cases e; omega), hb5.grown hg6 (by omega) (fun j hj => by cases hj; omega), Nat.le_trans hs5 hg6.size⟩
            have FIN := Lib.hid fin
            clear fin HLS HLV
            go_wp2_with (first
              | (at_mapUpdate; refine wpList_upd rfl _ _ _ 72 rfl 3 Try.underlying72 rfl hM5 hlm v rfl hwv (.int .i64 y) rfl ?_; intro w6 h6 hg6; have HM6 := Lib.hid (FIN.out w6 h6 hg6).1; have HT6 := Lib.hid (FIN.out w6 h6 hg6).2.1; have hR6 := (FIN.out w6 h6 hg6).2.2.1; have hb6 := (FIN.out w6 h6 hg6).2.2.2.1; have hs6 := (FIN.out w6 h6 hg6).2.2.2.2; have O1 := Lib.hid HT6.out.o1; clear h6 hg6)
              | (at_builtin; refine wpList_push rfl (.tmp 58) (.tmp 60) 25 rfl 3 _ 8 Try.underlying25 info_int rfl B _ _ _ rfl O1.out (.int .i64 y) rfl rfl (by omega) (by omega) hs6 ?_; intro g7 c7 w7 hown7 hbel7 hag7 hat7; have HT7 := Lib.hid (HT6.out.push1 hown7 hag7 hat7); have O2 := Lib.hid HT7.out.o2; have hl7 := Lib.hid (hag7 (fun k => k < B) (fun k hk => by have := (O1.out.lt k hk).1; omega)); have HM7 := Lib.hid (HM6.out.agree hl7.out hbl); have hR7 := hR6.agree hl7.out (by omega); have hb7 := hb6.trans (hbel7.mono hwB); have hs7 := Nat.le_trans hs6 hbel7.size; clear hown7 hbel7 hag7 hat7)
              | (at_builtin; refine wpList_push rfl (.tmp 62) (.tmp 64) 25 rfl 3 _ 8 Try.underlying25 info_int rfl B _ _ _ rfl O2.out (.int .i64 k) rfl rfl (by omega) (by omega) hs7 ?_; intro g8 c8 w8 hown8 hbel8 hag8 hat8; have HT8 := Lib.hid (HT7.out.push2 hown8 hag8 hat8); have hl8 := Lib.hid (hag8 (fun k => k < B) (fun k hk => by have := (O2.out.lt k hk).1; omega)); have HM8 := Lib.hid (HM7.out.agree hl8.out hbl); have hR8 := hR7.agree hl8.out (by omega); have hb8 := hb7.trans (hbel8.mono hwB); have hs8 := Nat.le_trans hs7 hbel8.size; clear hown8 hbel8 hag8 hat8))
            have hs6' : openN ll (lits ++ [y]) + 1 ≤ f := by have := HO.out; omega
            have hs7' : openN ll (lits ++ [y]) < openN ll lits := HO.out
            obtain ⟨f', rfl⟩ : ∃ f', f = f' + 1 := ⟨f - 1, by omega⟩
            have HE2 : Hid (E = unitsN ll (f' + 1) (lits ++ [y]) (rs ++ [(k : Int)])) := Lib.hid (HE.out.trans HU.out)
            have HM8' : Hid (MapV keyI w8 b (litV (lits ++ [y])) (lits ++ [y]).length) := Lib.hid (by rw [List.length_append]; exact HM8.out)
            obtain ⟨l1, hl1⟩ : ∃ l1, l1 = lits ++ [y] := ⟨_, rfl⟩
            obtain ⟨r1, hr1⟩ : ∃ r1, r1 = rs ++ [(k : Int)] := ⟨_, rfl⟩
            have n1' : l1.length = lits.length + 1 := by rw [hl1]; simp
            have n2' : r1.length = rs.length + 1 := by rw [hr1]; simp
            rw [← hl1] at HT8 HE2 HM8' HA2 hs6' hs7'
            rw [← hr1] at HT8 HE2 hW2
            rw [n1', n2'] at HT8
            have N1 := Lib.hid n1'
            have N2 := Lib.hid n2'
            clear hl1 hr1 HO HU HT7 HT6 HM6 HM7 HM8 O1 O2 HE HT5 HM5 hM5 hs5 hs6 hs7 FIN n1' n2' hl7 hl8
            go_wp2
            go_roundw
            case rel => exact ⟨l1, r1, f', true, rfl, hb8, hs8, hR8, HM8', HT8, fun _ => ⟨HE2, by omega⟩, (fun h => (by cases h)), by have := N1.out; omega, by have := N2.out; omega, by have := N1.out; have := N2.out; omega, HA2, hW2⟩
            case measure => simp [lenOf, agN]; omega
          · have HN : Hid (stepP ll lits = stepFrom ll lits (k + 1)) := Lib.hid (by
              cases e : trueP (nthL ll k) lits with
              | true => exact HTRUE.out e
              | false => exact HMORE.out e (by rcases hor with h | h; rw [e] at h; cases h; omega))
            clear hor HCS HFN HHIT HTRUE HMORE
            go_wp2
            go_roundw
            case rel => exact ⟨k + 1, by omega, rfl, rfl, rfl, by go_num, hQ4, HN⟩
            case measure => simp [intOf]; omega
        · obtain rfl : k = ll.length := by omega
          have hst := hF.out.trans (stepFrom_end (Nat.le_refl _))
          have R : Hid (E = ((lits, rs), -1)) := Lib.hid (by rw [HE.out, units_end (by rw [hst]; simp), hst])
          have hb4 := ext_trans hbr hQ.ext
          have HM4 := Lib.hid (hM.out.ext hQ.ext)
          have HT4 := Lib.hid (hT.out.ext hQ.ext)
          have hs4 := Nat.le_trans hBs hQ.ext.size
          clear hst hF
          go_wp2
          go_roundw
          case rel => exact ⟨lits, rs, f, false, rfl, hb4, hs4, hR1, HM4, HT4, (fun h => (by cases h)), fun _ => R, hB, hR, hRL, hA, hW⟩
          case measure => simp [lenOf, agN]
end Go.Proofs.Ytifcgcdbebgahaa
