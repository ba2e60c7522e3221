/- The program's kernel. -/
import Derived.Test.YtijmjliijjkcbaaMxVerify
import Derived.Test.YtijmjliijjkcbaaMxSort
namespace Go.Proofs.Ytijmjliijjkcbaa
set_option linter.unusedVariables false
open Go.RowKit Go.Maps
attribute [local go_sem ↓] Go.wp_at_zero Go.wp_at_succ

def leadsB (E : List (List Int)) (c : Int) : Bool := E.any fun r => decide (lead r = c)
/-- What the program collects for one column, before it is sorted. -/
def kerAcc (E : List (List Int)) (c : Int) : List Int := c :: (E.filter fun r => memB r c).map lead
def kerTo (E : List (List Int)) (n : Nat) : List (List Int) := ((List.range n).filter fun (c : Nat) => !leadsB E (c : Int)).map fun (c : Nat) => sortL (kerAcc E (c : Int))
def kerS (m : Mx) : Mx × Int := if checkM m ≠ 0 then (⟨0, []⟩, checkM m) else (⟨m.cols, kerTo (rowsE m) m.cols.toNat⟩, 0)
theorem kerS_err {m : Mx} (h : checkM m ≠ 0) : kerS m = (⟨0, []⟩, checkM m) := by unfold kerS; rw [if_pos h]
theorem kerS_ok {m : Mx} (h : checkM m = 0) : kerS m = (⟨m.cols, kerTo (rowsE m) m.cols.toNat⟩, 0) := by unfold kerS; rw [if_neg (by simp [h])]
theorem kerTo_succ (E : List (List Int)) (n : Nat) : kerTo E (n + 1) = kerTo E n ++ (if leadsB E (n : Nat) = true then [] else [sortL (kerAcc E (n : Nat))]) := by
  unfold kerTo
  rw [List.range_succ, List.filter_append, List.map_append, List.filter_cons]
  cases leadsB E (n : Nat) <;> simp
theorem kerTo_length (E : List (List Int)) (n : Nat) : (kerTo E n).length ≤ n := by
  unfold kerTo; rw [List.length_map]; exact Nat.le_trans (List.length_filter_le _ _) (by simp)
theorem leadsB_take {E : List (List Int)} {k : Nat} (hk : k < E.length) (c : Int) : leadsB (E.take (k + 1)) c = (leadsB (E.take k) c || decide (c = lead (nthL E k))) := by
  unfold leadsB
  rw [take_nthL hk, List.any_append]
  simp only [List.any_cons, List.any_nil, Bool.or_false]
  congr 1
  by_cases h : lead (nthL E k) = c
  · subst h; simp
  · have : ¬ c = lead (nthL E k) := fun e => h e.symm
    simp [h, this]
theorem kerAcc_take {E : List (List Int)} {k : Nat} (hk : k < E.length) (c : Int) : kerAcc (E.take (k + 1)) c = kerAcc (E.take k) c ++ (if memB (nthL E k) c = true then [lead (nthL E k)] else []) := by
  unfold kerAcc
  rw [take_nthL hk, List.filter_append, List.map_append, List.filter_cons]
  split <;> simp
theorem kerAcc_length (E : List (List Int)) (c : Int) : 0 < (kerAcc E c).length ∧ (kerAcc E c).length ≤ E.length + 1 := by
  unfold kerAcc
  have := List.length_filter_le (fun r => memB r c) E
  simp
  omega
/-- Rows as the echelon form has them. -/
structure KOk (c : Int) (E : List (List Int)) : Prop where
  rok : ROk c E
  ne : ∀ r ∈ E, r ≠ []
  len : E.length ≤ 4096
theorem MOk.kok {m : Mx} (h : MOk m) : KOk m.cols (rowsE m) := by
  have he := h.eok
  have hm : ∀ r ∈ rowsE m, ∃ l ∈ linesE m, r = l.1 := fun r hr => by
    unfold rowsE at hr
    obtain ⟨l, hl, rfl⟩ := List.mem_map.1 hr
    exact ⟨l, hl, rfl⟩
  refine ⟨⟨by have := h.c1; omega, fun r hr => ?_, fun r hr => ?_⟩, fun r hr => ?_, by unfold rowsE; rw [List.length_map]; exact linesE_len m h⟩
  · obtain ⟨l, hl, rfl⟩ := hm r hr; exact (he.gl l hl).1.o1
  · obtain ⟨l, hl, rfl⟩ := hm r hr; exact (he.gl l hl).1.r1
  · obtain ⟨l, hl, rfl⟩ := hm r hr; exact (he.gl l hl).2
theorem KOk.lead_rng {c : Int} {E : List (List Int)} (h : KOk c E) {k : Nat} (hk : k < E.length) : 0 ≤ lead (nthL E k) ∧ lead (nthL E k) < c := h.rok.rng _ (nthL_mem hk) _ (lead_mem (h.ne _ (nthL_mem hk)))
theorem kerAcc_wf {c : Int} {E : List (List Int)} (h : KOk c E) (hc : c ≤ 100000) {x : Int} (hx : 0 ≤ x ∧ x < c) : ∀ y ∈ kerAcc E x, 0 ≤ y ∧ y < c := by
  intro y hy
  unfold kerAcc at hy
  rcases List.mem_cons.1 hy with rfl | hy
  · exact hx
  · obtain ⟨r, hr, rfl⟩ := List.mem_map.1 hy
    have := (List.mem_filter.1 hr).1
    exact h.rok.rng r this _ (lead_mem (h.ne r this))
theorem Row.owns {w : World} {g base : Nat} {e : TypeId} {xs : List Value} (h : Row w g e xs) (hb : base ≤ g) (hl : xs.length ≤ maxLen) : w.ownsRow base e 1 (.slice (some ⟨g, 0, none⟩) xs.length xs.length) xs.length xs :=
  ⟨by simp, .inr ⟨g, xs.length, xs.toArray, rfl, hb, h, Nat.le_refl _, hl, by simp, by simp⟩⟩
theorem Lists.block {S : Nat → Prop} {w : World} {v : Value} {ll : List (List Int)} (h : Lists S w v ll) : Lists (fun b => S b ∧ b < w.heap.size) w v ll := by
  obtain ⟨a, cap, rfl, ha, h1, h2, hc⟩ := h
  refine ⟨a, cap, rfl, ?_, h1, h2, fun j hj => ?_⟩
  · rcases ha with h | ⟨b, off, rfl, hb, hs⟩
    · exact .inl h
    · exact .inr ⟨b, off, rfl, hb, hs, hb⟩
  · obtain ⟨u, hu, hi⟩ := hc j hj
    exact ⟨u, hu, hi.block 0⟩
theorem zero_bool (w : World) : (zeroValue 4).run Try.prog w = .ok (.bool false) w := by kernel_rfl
/-- The first cell of a row. -/
theorem first_cell {S : Nat → Prop} {w : World} {a : Option Addr} {cap : Nat} {l : List Int} (h : Ints S w (.slice a l.length cap) l) (hn : l ≠ []) :
    w.cell? (adr a 0) = some (.int .i64 (lead l)) ∧ (∀ W : World, (Instr.indexAt 38 (.slice a l.length cap) (.int .i64 0)).run Try.prog W = .ok (.pointer (some (adr a 0))) W) ∧ (adr a 0).block < w.heap.size := by
  have hp : 0 < l.length := List.length_pos_iff.2 hn
  obtain ⟨i3, hi3, _, hy1, _⟩ := info_parts info_int
  have had := ints_ad h
  refine ⟨?_, by simpa using idx_one Try.underlying38 hi3 hy1 had 0 hp, adr_block had hp⟩
  cases l with
  | nil => exact absurd rfl hn
  | cons x t => exact ints_head h (.refl _ _)

set_option maxRecDepth 100000 in
set_option maxHeartbeats 4000000 in
theorem kernel_calls {S : Nat → Prop} {w : World} {va : Value} {m : Mx} (ha : MatV S w va m) :
    Calls Try.prog 20 #[va] w (Post w (RetM w.heap.size (kerS m))) := by
  obtain ⟨cols, ll⟩ := m
  obtain ⟨ra, rfl, la⟩ := ha
  obtain ⟨aa, acap, rfl, aad, al1, alm⟩ := la.form
  dsimp only at la al1 aad ⊢
  have ex : Below w.heap.size w ((w.alloc (.cells #[.int .i64 cols, .slice aa ll.length acap] 24)).alloc (.cells #[.int .i64 0, .slice none 0 0] 24)) := ext_alloc' (ext_alloc w _) _
  have r0 := (row_new w [.int .i64 cols, .slice aa ll.length acap] 24).alloc (.cells #[.int .i64 0, .slice none 0 0] 24)
  have r1 := row_new (w.alloc (.cells #[.int .i64 cols, .slice aa ll.length acap] 24)) [.int .i64 0, .slice none 0 0] 24
  simp only [World.size_alloc] at r1
  have KE := Lib.hid (echelonM_calls (va := .agg #[.int .i64 cols, .slice aa ll.length acap]) (m := ⟨cols, ll⟩) ⟨_, rfl, la.ext ex⟩)
  have hmm := @run_makeMap Try.prog
  go_enter Try.func20, Try.ntmps20
  go_wp2_with fail
  refine KE.out.mono ?_
  rintro _ w1 ⟨_, rfl, hb1, mv, rfl, rv, rfl, hl⟩
  have hx1 := ext_trans ex hb1
  have R0 := r0.ext hb1
  have R1 := r1.ext hb1
  have hb1s := hb1.size
  simp only [World.size_alloc] at hl hb1s
  clear KE r0 r1 ex hb1
  by_cases h1 : ¬ checkM ⟨cols, ll⟩ = 0
  · have e1 : (checkM ⟨cols, ll⟩ != 0) = true := by simp [h1]
    have R := Lib.hid (kerS_err h1)
    rw [echS_err h1] at hl ⊢
    obtain ⟨a1, c1, hrv, _⟩ := hl.form
    rw [show (⟨0, []⟩ : Mx).rows.length = 0 from rfl] at hrv
    subst hrv
    clear h1
    dsimp only
    go_upto_region 2 with fail
    obtain ⟨w2, hw2⟩ : ∃ w2, w2 = w1.alloc (.cells #[.int .i64 0, .slice a1 0 c1] 24) := ⟨_, rfl⟩
    rw [← hw2]
    have hb2 : Below w1.heap.size w1 w2 := by rw [hw2]; exact ext_alloc _ _
    have R1 := R1.ext hb2
    have hx2 := ext_trans hx1 hb2
    obtain ⟨q10, q11⟩ := R1.two
    have f10 := R1.free 0
    have f11 := R1.free 1
    clear hw2
    go_wp2
    refine bodyPost_ret (v := .tuple #[.agg #[.int .i64 0, .slice none 0 0], .int .i64 (checkM ⟨cols, ll⟩)]) (by simp [results, Try.results20, go_sem, q10, q11]) rfl ?_
    exact .mk (set2_below _ _ hx2 (by omega)) (.none R.out)
  have h1 := Classical.not_not.1 h1
  have R := Lib.hid (kerS_ok h1)
  have HK := Lib.hid (checkM_zero.1 h1).kok
  have HM := Lib.hid (checkM_zero.1 h1)
  have hc0 : 0 ≤ cols := HM.out.c0
  have hc1 : cols ≤ 4096 := HM.out.c1
  rw [echS_ok h1] at hl ⊢
  dsimp only at hl ⊢ R HK
  obtain ⟨E, hE⟩ : ∃ E, E = rowsE ⟨cols, ll⟩ := ⟨_, rfl⟩
  rw [← hE] at hl R HK
  have HE := Lib.hid hE
  obtain ⟨n, hn⟩ : ∃ n : Nat, cols = (n : Int) := ⟨cols.toNat, by omega⟩
  subst hn
  simp only [Int.toNat_natCast] at R
  obtain ⟨a1, c1, rfl, ad1, l11, l12⟩ := hl.form
  unfold maxLen at l12
  have hEl : E.length ≤ 4096 := HK.out.len
  clear h1 hE
  obtain ⟨i0, hi, hz0, hz1, hz2⟩ := info_parts info_ints
  have HQE := Lib.hid (idx_one Try.underlying22 hi hz1 ad1)
  clear hi hz0 hz1 hz2
  obtain ⟨q00, q01⟩ := R0.two
  have hz0w := R0.lt
  go_upto_region 6 with fail
  obtain ⟨T4, hT4⟩ : ∃ T4, T4 = w1.heap.size := ⟨_, rfl⟩
  obtain ⟨w2, hw2⟩ : ∃ w2, w2 = ((w1.alloc (.cells #[.int .i64 n, .slice a1 E.length c1] 24)).alloc (.cells #[.int .i64 n, .slice none 0 0] 24)).alloc (.map #[] 0) := ⟨_, rfl⟩
  rw [← hw2, ← hT4]
  have hb2 : Below w1.heap.size w1 w2 := by rw [hw2]; exact ext_alloc' (ext_alloc' (ext_alloc _ _) _) _
  have RT4 : Row w2 T4 24 [.int .i64 n, .slice a1 E.length c1] := by rw [hw2, hT4]; exact ((row_new _ _ _).alloc _).alloc _
  have ROB : Row w2 (T4 + 1) 24 [.int .i64 n, .slice none 0 0] := by
    rw [hw2, hT4]
    have := (row_new (w1.alloc (.cells #[.int .i64 n, .slice a1 E.length c1] 24)) [.int .i64 n, .slice none 0 0] 24).alloc (.map #[] 0)
    simpa only [World.size_alloc] using this
  have hMP : MapV KI w2 (T4 + 1 + 1) (fun x => if leadsB (E.take 0) x = true then some (.bool true) else none) 0 := by
    rw [hw2, hT4]
    have := MapV.made KI ((w1.alloc (.cells #[.int .i64 n, .slice a1 E.length c1] 24)).alloc (.cells #[.int .i64 n, .slice none 0 0] 24))
    simp only [World.size_alloc] at this
    exact this
  have R0 := R0.ext hb2
  have R1 := R1.ext hb2
  have hx2 := ext_trans hx1 hb2
  have hl := hl.block.ext hb2
  have hT4a : w1.heap.size ≤ T4 := by omega
  have hT4b : T4 ≤ w1.heap.size := by omega
  have hT4w : w.heap.size + 1 < T4 := by omega
  have hmbl := hMP.lt
  have hA2 : Agree (fun b => b ≠ T4 + 1 + 1) w2 w2 := .refl _ _
  clear hw2 hb2 q00 q01 hmm hT4
  obtain ⟨p0, p1⟩ := RT4.two
  go_wp2
  go_loopw [9, 30] (fun _ i wr => ∃ k nn : Nat, k ≤ E.length ∧ nn ≤ k ∧ i = .int .i64 k ∧ Below w.heap.size w wr ∧ Agree (fun b => b ≠ T4 + 1 + 1) w2 wr ∧ MapV KI wr (T4 + 1 + 1) (fun x => if leadsB (E.take k) x = true then some (.bool true) else none) nn) (fun _ i _ => E.length - (intOf i).toNat)
  case atStart => exact ⟨0, 0, Nat.zero_le _, Nat.le_refl _, rfl, hx2, hA2, hMP⟩
  case round =>
    obtain ⟨k, nn, hk, hnn, rfl, hb, hA, hM⟩ := hrel
    by_cases hlt : k < E.length
    · have q := HQE.out k hlt
      obtain ⟨u, cu0, iu0⟩ := hl.at (.refl _ _) hlt
      have hA' : Agree (fun b => (w.heap.size + 1 + 1 ≤ b ∧ b < T4) ∨ b ≤ T4) w2 wr := hA.mono fun b hb => by omega
      have hlb := adr_block ad1 hlt
      have cu := cell_agree cu0 hA' (.inr (by omega))
      have iu := iu0.agree (hA.mono fun b hb => by omega)
      have hne := HK.out.ne _ (nthL_mem hlt)
      have hlr := HK.out.lead_rng hlt
      have HLT := Lib.hid (fun x => leadsB_take hlt x)
      obtain ⟨r, hr⟩ : ∃ r, r = nthL E k := ⟨_, rfl⟩
      rw [← hr] at iu hne hlr HLT
      obtain ⟨ar, cr, rfl, _⟩ := iu.form
      obtain ⟨cf, qf, bf⟩ := first_cell iu hne
      obtain ⟨p, hp⟩ : ∃ p, p = lead r := ⟨_, rfl⟩
      rw [← hp] at cf hlr HLT
      have wfp : WF p := WF.small (by omega)
      have HMM := Lib.hid hM
      clear hr hp hM
      go_wp2_with (refine wpList_upd (B := KI) rfl _ _ _ 71 rfl 4 Try.underlying71 rfl HMM.out (by unfold maxLen; omega) p rfl wfp (.bool true) rfl ?_; intro w5 hM5 hg5)
      have hM6 : MapV KI w5 (T4 + 1 + 1) (fun x => if leadsB (E.take (k + 1)) x = true then some (.bool true) else none) (if ((if leadsB (E.take k) p = true then some (Value.bool true) else none)).isSome then nn else nn + 1) := by
        have e : (fun x => if leadsB (E.take (k + 1)) x = true then some (Value.bool true) else none) = fun z => if z = p then some (.bool true) else if leadsB (E.take k) z = true then some (.bool true) else none := by
          funext z
          rw [HLT.out z]
          by_cases hz : z = p <;> simp [hz]
        rw [e]; exact hM5
      have hnn' : (if ((if leadsB (E.take k) p = true then some (Value.bool true) else none)).isSome then nn else nn + 1) ≤ k + 1 := (fun q : Bool => (by cases q <;> simp <;> omega : (if q = true then nn else nn + 1) ≤ k + 1)) _
      have hA5 : Agree (fun b => b ≠ T4 + 1 + 1) w2 w5 := hA.trans (.of_grown hg5 fun b hb e => by cases e; exact hb rfl)
      have hb5 : Below w.heap.size w w5 := hb.trans ((Below.refl _ _).grown hg5 (by have := hb.size; omega) (fun k' hk' => by cases hk'; omega))
      clear hM5 hg5
      go_wp2
      go_roundw
      case rel => exact ⟨k + 1, _, by omega, hnn', by go_num, hb5, hA5, hM6⟩
      case measure => simp [intOf]; omega
    · obtain rfl : k = E.length := by omega
      rw [List.take_length] at hM
      obtain ⟨wq, hwq⟩ : ∃ wq : World, wq = wr := ⟨_, rfl⟩
      rw [← hwq] at hb hA hM ⊢
      have hTl := RT4.lt
      have hOl := ROB.lt
      have R0 := R0.agree (S := fun b => b ≠ T4 + 1 + 1) hA (by omega)
      have R1 := R1.agree (S := fun b => b ≠ T4 + 1 + 1) hA (by omega)
      have RT4 := RT4.agree (S := fun b => b ≠ T4 + 1 + 1) hA (by omega)
      have ROB := ROB.agree (S := fun b => b ≠ T4 + 1 + 1) hA (by omega)
      have hl := hl.agree (hA.mono fun b hb => by omega)
      have hAs := hA.size
      have hB0 : T4 + 1 + 1 + 1 ≤ wq.heap.size := by omega
      have hrq : Agree (fun b => b < T4 + 1 + 1 + 1 ∧ b ≠ T4 + 1) wq wq := .refl _ _
      obtain ⟨q00, q01⟩ := R0.two
      clear hwq p0 p1
      go_wp2
      go_loopw [10, 11, 13, 41] (fun _ _ _ i wr => ∃ (c : Nat) (rv : Value) (vs : List Value), c ≤ n ∧ i = .int .i64 c ∧ Below w.heap.size w wr ∧ T4 + 1 + 1 + 1 ≤ wr.heap.size ∧ Agree (fun b => b < T4 + 1 + 1 + 1 ∧ b ≠ T4 + 1) wq wr ∧ Row wr (T4 + 1) 24 [.int .i64 n, rv] ∧ OwnList 38 (T4 + 1 + 1 + 1) wr rv vs (kerTo E c)) (fun _ _ _ i _ => n - (intOf i).toNat)
      case atStart => exact ⟨0, _, [], Nat.zero_le _, rfl, hb, hB0, hrq, ROB, .nil _ _ _⟩
      case round =>
        obtain ⟨c, rv, vs, hc, rfl, hbr, hBr, hAr, ROBr, hO⟩ := hrel
        obtain ⟨wo, hwo⟩ : ∃ wo : World, wo = wr := ⟨_, rfl⟩
        rw [← hwo] at hbr hBr hAr ROBr hO ⊢
        clear hwo
        by_cases hcn : c < n
        · have hMr := hM.agree hAr (show _ ∧ _ from ⟨by omega, by omega⟩)
          have wfc : WF (c : Int) := WF.small (by omega)
          have hlk := fun W (hW : Below wo.heap.size wo W) => (hMr.ext hW).look (t := 71) (e := 4) Try.underlying71 (zero_bool W) (x := (c : Int)) wfc false
          have HKS := Lib.hid (kerTo_succ E c)
          cases hq : leadsB E (c : Int) with
          | true =>
            have hl0 : (Instr.lookup 71 (.map (some (T4 + 1 + 1))) (.int .i64 (c : Int)) false).run Try.prog wo = .ok (.bool true) wo := by
              have := hlk wo (.refl _ _)
              rw [hq] at this
              exact this
            rw [hq, if_pos rfl, List.append_nil] at HKS
            rw [← HKS.out] at hO
            clear hq hlk
            go_wp2
            go_roundw
            case rel => exact ⟨c + 1, rv, vs, by omega, by go_num, hbr, hBr, hAr, ROBr, hO⟩
            case measure => simp [intOf]; omega
          | false =>
            have hl0 : (Instr.lookup 71 (.map (some (T4 + 1 + 1))) (.int .i64 (c : Int)) false).run Try.prog wo = .ok (.bool false) wo := by
              have := hlk wo (.refl _ _)
              rw [hq] at this
              exact this
            rw [hq, if_neg (by simp)] at HKS
            clear hq hlk
            have RT4r := RT4.agree (S := fun b => b < T4 + 1 + 1 + 1 ∧ b ≠ T4 + 1) hAr ⟨by omega, by omega⟩
            have hlr := hl.agree (hAr.mono fun b hb => by omega)
            obtain ⟨p0, p1⟩ := RT4r.two
            have hTo := RT4r.lt
            have hown0 := (row_new wo [.int .i64 (c : Int)] 3).owns (base := wo.heap.size) (Nat.le_refl _) (by simp [maxLen])
            have hbo := ext_alloc wo (.cells #[.int .i64 (c : Int)] 3)
            go_wp2
            go_loopw [11, 13, 52] (fun vo _ i wi => ∃ k : Nat, k ≤ E.length ∧ i = .int .i64 k ∧ Below wo.heap.size wo wi ∧ wi.ownsRow wo.heap.size 3 1 vo (kerAcc (E.take k) (c : Int)).length ((kerAcc (E.take k) (c : Int)).map (Value.int .i64))) (fun _ _ i _ => E.length - (intOf i).toNat)
            case atStart => exact ⟨0, Nat.zero_le _, rfl, hbo, hown0⟩
            case round =>
              obtain ⟨k, hk, rfl, hbi, ho⟩ := hrel
              by_cases hlt : k < E.length
              · have q := HQE.out k hlt
                obtain ⟨u, cu, iu⟩ := hlr.at hbi hlt
                have hne := HK.out.ne _ (nthL_mem hlt)
                have hrg := HK.out.lead_rng hlt
                have hor := HK.out.rok.nth_ord k
                have hnl := HK.out.rok.nth_len k
                have HT := Lib.hid (kerAcc_take hlt (c : Int))
                have hal := kerAcc_length (E.take k) (c : Int)
                have htl := List.length_take_le k E
                obtain ⟨r, hr⟩ : ∃ r, r = nthL E k := ⟨_, rfl⟩
                rw [← hr] at iu hne hrg hor hnl HT
                obtain ⟨ar, cr, rfl, _⟩ := iu.form
                obtain ⟨cf, qf, bf⟩ := first_cell iu hne
                obtain ⟨p, hp⟩ : ∃ p, p = lead r := ⟨_, rfl⟩
                rw [← hp] at cf hrg HT
                have HH := Lib.hid (has_quiet iu hor (by omega) (c : Int))
                obtain ⟨acc, hacc⟩ : ∃ acc, acc = kerAcc (E.take k) (c : Int) := ⟨_, rfl⟩
                rw [← hacc] at ho HT hal
                obtain ⟨hal0, hal1⟩ := hal
                clear hr hp hacc hor hnl
                go_wp2_with fail
                refine (HH.out.mono fun _ _ h => h.post).mono ?_
                rintro _ w5 ⟨_, rfl, hb5, rfl⟩
                have hb5' := ext_trans hbi hb5
                have ho5 := owns_ext ho hb5
                have cf5 := cell_ext cf hb5
                have hs5 := hb5'.size
                clear ho cf
                cases hod : memB r (c : Int) with
                | false =>
                  rw [hod, if_neg (by simp), List.append_nil] at HT
                  rw [← HT.out] at ho5
                  clear hod
                  go_wp2
                  go_roundw
                  case rel => exact ⟨k + 1, by omega, by go_num, hb5', ho5⟩
                  case measure => simp [intOf]; omega
                | true =>
                  rw [hod, if_pos rfl] at HT
                  have HO5 := Lib.hid ho5
                  clear hod ho5
                  go_wp2_with (at_builtin; refine wpList_push rfl _ _ 38 rfl 3 _ 8 Try.underlying38 info_int rfl wo.heap.size _ _ _ rfl HO5.out (.int .i64 p) rfl rfl (by omega) (by omega) hs5 ?_; intro g' c' w7 hown7 hbel7 _ _)
                  have hb7 := hb5'.trans hbel7
                  have hT2 := Lib.hid (show w7.ownsRow wo.heap.size 3 1 (.slice (some ⟨g', 0, none⟩) (acc.length + 1) c') (kerAcc (E.take (k + 1)) (c : Int)).length ((kerAcc (E.take (k + 1)) (c : Int)).map (Value.int .i64)) from by rw [HT.out]; simpa using hown7)
                  clear hown7 hbel7
                  go_wp2
                  go_roundw
                  case rel => exact ⟨k + 1, by omega, by go_num, hb7, hT2.out⟩
                  case measure => simp [intOf]; omega
              · obtain rfl : k = E.length := by omega
                rw [List.take_length] at ho
                have hal := kerAcc_length E (c : Int)
                have hwf := Lib.hid (kerAcc_wf HK.out (by omega) (x := (c : Int)) (by omega))
                obtain ⟨acc, hacc⟩ : ∃ acc, acc = kerAcc E (c : Int) := ⟨_, rfl⟩
                rw [← hacc] at ho HKS hal hwf
                clear hacc
                obtain ⟨hal0, hal1⟩ := hal
                obtain ⟨g, cp, hgv, hgB, hgl⟩ := ho.form hal0
                subst hgv
                have hcap : acc.length ≤ cp ∧ cp ≤ maxLen := by
                  rcases ho.2 with ⟨h', _⟩ | ⟨g', cap', cur, h', _, _, h1, h2, _⟩
                  · simp at h'
                  · simp only [Value.slice.injEq] at h'; obtain ⟨_, _, rfl⟩ := h'; exact ⟨h1, h2⟩
                have KS := Lib.hid (sort_calls (cap := cp) rfl (RowAt.of_own ho) (by omega))
                obtain ⟨hcap1, hcap2⟩ := hcap
                have hbis := hbi.size
                clear ho
                go_wp2_with fail
                refine KS.out.mono ?_
                rintro _ w8 ⟨rfl, hra, hag8, hbel8⟩
                have hb8 : Below wo.heap.size wo w8 := hbi.trans (below_of_agree hbel8 hag8 hgB hbis)
                have hsl := sortL_length acc
                have hI := (hra.ints (by rw [hsl]; unfold maxLen; omega) (fun x hx => WF.small (by have := hwf.out x ((sortL_perm acc).mem_iff.1 hx); omega)) cp (by omega) hcap2).mono (S' := fun b => wo.heap.size ≤ b) fun b hb => by omega
                rw [hsl] at hI
                have HI := Lib.hid hI
                obtain ⟨sl, hsle⟩ : ∃ sl, sl = sortL acc := ⟨_, rfl⟩
                rw [← hsle] at HI HKS
                have ROB8 := ROBr.ext hb8
                have ORW := Lib.hid (hO.ext hb8).row
                have hkl := kerTo_length E c
                have hz8 := hb8.size
                have HNE := Lib.hid (fun (k : Nat) (hk : rv.ownBlock = some k) => (hO.row.lt k hk))
                obtain ⟨kl, hkle⟩ : ∃ kl, kl = kerTo E c := ⟨_, rfl⟩
                rw [← hkle] at ORW hkl hO HKS
                obtain ⟨o0, o1⟩ := ROB8.two
                clear hra hag8 hbel8 hsl hI hsle hkle
                go_wp2_with (at_builtin; refine wpList_push rfl _ _ 22 rfl 38 _ 24 Try.underlying22 info_ints rfl (T4 + 1 + 1 + 1) _ _ _ rfl ORW.out (.slice (some ⟨g, 0, none⟩) acc.length cp) rfl rfl (by omega) (by omega) (by omega) ?_; intro g6 cp6 w6 hown6 hbel6 hag6 hat6; have R6 := ROB8.agree (S := fun b => b = T4 + 1) (hag6 _ fun k hk e => by have := (HNE.out k hk).1; omega) rfl; have f6 := R6.free 1; have c6 := R6.cell (j := 1) rfl)
                have HP := out_push0 (T := 24) (OB := T4 + 1) (B := T4 + 1 + 1 + 1) (by omega) hBr ROBr hO hb8 HI.out hown6 hag6 hbel6 hat6
                obtain ⟨P3, PO, PA, PB⟩ := HP
                have PB0 := PB w.heap.size (by omega)
                have hsz := PA.size
                have PO2 := Lib.hid PO
                rw [← HKS.out] at PO2
                have hAf := hAr.trans PA
                clear PA PB PO hag6 hown6 hbel6
                go_wp2
                go_roundw
                case rel => exact ⟨c + 1, _, _, by omega, by go_num, hbr.trans PB0, by omega, hAf, P3, PO2.out⟩
                case measure => simp [intOf]; omega
        · obtain rfl : c = n := by omega
          have hL := hO.lists
          obtain ⟨a9, c9, rfl, _⟩ := hL.form
          obtain ⟨o0, o1⟩ := ROBr.two
          have R1r := R1.agree (S := fun b => b < T4 + 1 + 1 + 1 ∧ b ≠ T4 + 1) hAr ⟨by omega, by omega⟩
          obtain ⟨q10, q11⟩ := R1r.two
          have f10 := R1r.free 0
          have f11 := R1r.free 1
          go_wp2
          refine bodyPost_ret (v := .tuple #[.agg #[.int .i64 c, .slice a9 (kerTo E c).length c9], .int .i64 0]) (by simp [results, Try.results20, go_sem, q10, q11]) rfl ?_
          exact .mk (set2_below _ _ hbr (by omega)) (.mk R.out ((hL.agree (set2_agree (B := T4 + 1 + 1 + 1) _ _ (by omega))).mono fun b hb => by omega))
end Go.Proofs.Ytijmjliijjkcbaa
