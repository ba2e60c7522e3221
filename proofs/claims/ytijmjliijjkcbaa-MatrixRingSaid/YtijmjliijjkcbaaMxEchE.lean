/- The program's echelon form and rank. -/
import Derived.Test.YtijmjliijjkcbaaMxEchW
namespace Go.Proofs.Ytijmjliijjkcbaa
set_option linter.unusedVariables false
open Go.RowKit Go.Maps
attribute [local go_sem ↓] Go.wp_at_zero Go.wp_at_succ

def linesE (m : Mx) : List Ln := outTo (echTo m.rows m.rows.length).1 m.cols.toNat
def depsE (m : Mx) : List (List Int) := (echTo m.rows m.rows.length).2
def rowsE (m : Mx) : List (List Int) := (linesE m).map (·.1)
def echS (m : Mx) : Mx × Int := if checkM m ≠ 0 then (⟨0, []⟩, checkM m) else (⟨m.cols, rowsE m⟩, 0)
theorem echS_err {m : Mx} (h : checkM m ≠ 0) : echS m = (⟨0, []⟩, checkM m) := by unfold echS; rw [if_pos h]
theorem echS_ok {m : Mx} (h : checkM m = 0) : echS m = (⟨m.cols, rowsE m⟩, 0) := by unfold echS; rw [if_neg (by simp [h])]
theorem linesE_len (m : Mx) (h : MOk m) : (linesE m).length ≤ 4096 := by
  unfold linesE
  rw [outTo_length]
  have := h.c1
  have h2 : (List.range m.cols.toNat).countP (fun c => ((echTo m.rows m.rows.length).1 (c : Nat)).isSome) ≤ (List.range m.cols.toNat).length := List.countP_le_length
  rw [List.length_range] at h2
  omega

theorem idx_lines {S : Nat → Prop} {w : World} {a : Option Addr} {n cap : Nat} (h : Ad S w a n cap) : ∀ k : Nat, k < n → ∀ W : World, (Instr.indexAt 65 (.slice a n cap) (.int .i64 k)).run Try.prog W = .ok (.pointer (some (adr a (k * 2)))) W := by
  intro k hk W
  obtain ⟨i, hi, _, h1, _⟩ := info_parts info_line
  rcases h with ⟨rfl, _⟩ | ⟨b, off, rfl, _, _⟩
  · omega
  · have hE : Try.prog.elem 65 = 69 := by simp [Program.elem, Try.underlying65]
    rw [run_indexAt_slice W 65 _ n cap .i64 k (by rw [hE]; exact Try.underlying65), if_pos (by omega), hE]
    simp [sizeOf, typeInfo, hi, h1, Result.andThen, adr, Addr.add]
/-- The cells of a line, in a later world. -/
theorem LinesV.at {S : Nat → Prop} {w wr : World} {a : Option Addr} {cap : Nat} {L : List Ln} (h : LinesV S w (.slice a L.length cap) L) (hw : Agree S w wr) {k : Nat} (hk : k < L.length) :
    ∃ a1 c1 b1 d1, wr.cell? (adr a (k * 2)) = some (.slice a1 (nthN L k).1.length c1) ∧ wr.cell? ⟨(adr a (k * 2)).block, (adr a (k * 2)).off + 1, none⟩ = some (.slice b1 (nthN L k).2.length d1) ∧ Ints S wr (.slice a1 (nthN L k).1.length c1) (nthN L k).1 ∧ Ints S wr (.slice b1 (nthN L k).2.length d1) (nthN L k).2 := by
  obtain ⟨a', cap', e, ad, _, _, hc⟩ := h.agree hw
  simp only [Value.slice.injEq, true_and] at e
  obtain ⟨rfl, rfl⟩ := e
  obtain ⟨va, vb, c0, c1, i0, i1⟩ := hc k hk
  obtain ⟨a1, q1, rfl, _⟩ := i0.form
  obtain ⟨b1, q2, rfl, _⟩ := i1.form
  exact ⟨a1, q1, b1, q2, c0, c1, i0, i1⟩
theorem LinesV.form {S : Nat → Prop} {w : World} {v : Value} {L : List Ln} (h : LinesV S w v L) : ∃ a cap, v = .slice a L.length cap ∧ Ad S w a L.length cap ∧ L.length ≤ cap ∧ cap ≤ maxLen := by
  obtain ⟨a, cap, rfl, ad, h1, h2, _⟩ := h; exact ⟨a, cap, rfl, ad, h1, h2⟩

/-- Values that read as lists. -/
def RefsV (S : Nat → Prop) (w : World) (vs : List Value) (ll : List (List Int)) : Prop := vs.length = ll.length ∧ ∀ j, j < ll.length → Ints S w (nthV vs j) (nthL ll j)
theorem RefsV.nil (S : Nat → Prop) (w : World) : RefsV S w [] [] := ⟨rfl, fun j hj => by simp at hj⟩
theorem RefsV.snoc {S : Nat → Prop} {w : World} {vs : List Value} {ll : List (List Int)} {u : Value} {l : List Int} (h : RefsV S w vs ll) (hu : Ints S w u l) : RefsV S w (vs ++ [u]) (ll ++ [l]) := by
  refine ⟨by simp [h.1], fun j hj => ?_⟩
  by_cases hlt : j < ll.length
  · rw [show nthV (vs ++ [u]) j = nthV vs j from by simp [nthV, List.getElem?_append_left (show j < vs.length by rw [h.1]; exact hlt)], show nthL (ll ++ [l]) j = nthL ll j from by simp [nthL, List.getElem?_append_left hlt]]
    exact h.2 j hlt
  · have : j = ll.length := by simp at hj; omega
    subst this
    rw [show nthV (vs ++ [u]) ll.length = u from by simp [nthV, ← h.1], show nthL (ll ++ [l]) ll.length = l from by simp [nthL]]
    exact hu
theorem RefsV.agree {S : Nat → Prop} {w w' : World} {vs : List Value} {ll : List (List Int)} (h : RefsV S w vs ll) (hw : Agree S w w') : RefsV S w' vs ll := ⟨h.1, fun j hj => (h.2 j hj).agree hw⟩
theorem Lists.of_own {S : Nat → Prop} {base : Nat} {e : TypeId} {w : World} {v : Value} {vs : List Value} {ll : List (List Int)} (ho : w.ownsRow base e 1 v ll.length vs) (hr : RefsV S w vs ll) (hS : ∀ b, base ≤ b → S b) : Lists S w v ll := by
  rcases ho.2 with ⟨rfl, h0⟩ | ⟨g, cap, cur, rfl, hb, hg, hnc, hcm, _⟩
  · have : ll = [] := List.length_eq_zero_iff.1 h0
    subst this
    exact .nil _ _
  · refine ⟨_, cap, rfl, .inr ⟨g, 0, rfl, (Array.getElem?_eq_some_iff.1 hg).1, hS _ hb⟩, hnc, hcm, fun j hj => ⟨nthV vs j, ?_, hr.2 j hj⟩⟩
    rw [adr_add, Nat.zero_add, ho.cellAt j (by omega), nthV_get (by rw [hr.1]; exact hj)]

set_option maxRecDepth 100000 in
set_option maxHeartbeats 4000000 in
theorem echelonM_calls {S : Nat → Prop} {w : World} {va : Value} {m : Mx} (ha : MatV S w va m) :
    Calls Try.prog 16 #[va] w (Post w (RetM w.heap.size (echS m))) := by
  obtain ⟨cols, ll⟩ := m
  obtain ⟨ra, rfl, la⟩ := ha
  obtain ⟨aa, acap, rfl, aad, al1, alm⟩ := la.form
  dsimp only at la al1 aad ⊢
  have ex : Below w.heap.size w ((w.alloc (.cells #[.int .i64 cols, .slice aa ll.length acap] 24)).alloc (.cells #[.int .i64 0, .slice none 0 0] 24)) := ext_alloc' (ext_alloc w _) _
  have r0 := (row_new w [.int .i64 cols, .slice aa ll.length acap] 24).alloc (.cells #[.int .i64 0, .slice none 0 0] 24)
  have r1 := row_new (w.alloc (.cells #[.int .i64 cols, .slice aa ll.length acap] 24)) [.int .i64 0, .slice none 0 0] 24
  simp only [World.size_alloc] at r1
  have KC := Lib.hid (check_calls (v := .agg #[.int .i64 cols, .slice aa ll.length acap]) (m := ⟨cols, ll⟩) ⟨_, rfl, la.ext ex⟩)
  go_enter Try.func16, Try.ntmps16
  go_wp2_with fail
  refine KC.out.mono ?_
  rintro _ w1 ⟨_, rfl, hb1, rfl⟩
  have hx1 := ext_trans ex hb1
  have R0 := r0.ext hb1
  have R1 := r1.ext hb1
  clear KC r0 r1 ex hb1
  obtain ⟨q10, q11⟩ := R1.two
  have f10 := R1.free 0
  have f11 := R1.free 1
  have hz1w := R1.lt
  by_cases h1 : ¬ checkM ⟨cols, ll⟩ = 0
  · have e1 : (checkM ⟨cols, ll⟩ != 0) = true := by simp [h1]
    have R := Lib.hid (echS_err h1)
    clear h1
    go_wp2
    refine bodyPost_ret (v := .tuple #[.agg #[.int .i64 0, .slice none 0 0], .int .i64 (checkM ⟨cols, ll⟩)]) (by simp [results, Try.results16, go_sem, q10, q11]) rfl ?_
    exact .mk (set2_below _ _ hx1 (by omega)) (.none R.out)
  have h1 := Classical.not_not.1 h1
  have e1 : (checkM ⟨cols, ll⟩ != 0) = false := by simp [h1]
  have HM := Lib.hid (checkM_zero.1 h1)
  have R := Lib.hid (echS_ok h1)
  clear h1 q10 q11 f10 f11
  obtain ⟨q00, q01⟩ := R0.two
  have hz0w : w.heap.size < w1.heap.size := by omega
  go_upto_region 5 with fail
  obtain ⟨OB, hOB⟩ : ∃ OB, OB = w1.heap.size := ⟨_, rfl⟩
  rw [← hOB]
  obtain ⟨w2, hw2⟩ : ∃ w2, w2 = w1.alloc (.cells #[.int .i64 cols, .slice none 0 0] 24) := ⟨_, rfl⟩
  rw [← hw2]
  have hb2 : Below w1.heap.size w1 w2 := by rw [hw2]; exact ext_alloc _ _
  have ROB : Row w2 OB 24 [.int .i64 cols, .slice none 0 0] := by rw [hw2, hOB]; exact row_new _ _ _
  have R0 := R0.ext hb2
  have R1 := R1.ext hb2
  have hx2 := ext_trans hx1 hb2
  have hOBw : w.heap.size + 1 < OB := by omega
  have hOBl := ROB.lt
  clear hw2 hb2 q00 q01 hOB
  obtain ⟨q00, q01⟩ := R0.two
  have KE := Lib.hid (echelon_calls (va := .agg #[.int .i64 cols, .slice aa ll.length acap]) (m := ⟨cols, ll⟩) (w := w2) ⟨_, rfl, la.ext hx2⟩ HM.out)
  go_wp2_with fail
  refine KE.out.mono ?_
  rintro _ w3 ⟨_, rfl, hb3, vl, vd, rfl, hL, hD⟩
  obtain ⟨L, hLL⟩ : ∃ L, L = linesE ⟨cols, ll⟩ := ⟨_, rfl⟩
  have hL : LinesV (fun b => w2.heap.size ≤ b) w3 vl L := by rw [hLL]; exact hL
  have hLn : L.length ≤ 4096 := by rw [hLL]; exact linesE_len _ HM.out
  have HLL : Hid (rowsE ⟨cols, ll⟩ = L.map (·.1)) := Lib.hid (by rw [hLL]; rfl)
  obtain ⟨a9, c9, rfl, ad9, l91, l92⟩ := hL.form
  have R0 := R0.ext hb3
  have R1 := R1.ext hb3
  have ROB := ROB.ext hb3
  have hx3 := ext_trans hx2 hb3
  have HQL := Lib.hid (idx_lines ad9)
  have hb3s := hb3.size
  unfold maxLen at l92
  have hA0 : Agree (fun b => b < w3.heap.size ∧ b ≠ OB) w3 w3 := .refl _ _
  clear KE q00 q01 hLL hD
  go_wp2
  go_loopw [9, 26] (fun _ i wr => ∃ (k : Nat) (rv : Value) (vs : List Value), k ≤ L.length ∧ i = .int .i64 k ∧ Below w.heap.size w wr ∧ Agree (fun b => b < w3.heap.size ∧ b ≠ OB) w3 wr ∧ Row wr OB 24 [.int .i64 cols, rv] ∧ wr.ownsRow w3.heap.size 38 1 rv ((L.map (·.1)).take k).length vs ∧ RefsV (fun b => w2.heap.size ≤ b ∧ b < w3.heap.size) w3 vs ((L.map (·.1)).take k)) (fun _ i _ => L.length - (intOf i).toNat)
  case atStart => exact ⟨0, _, [], Nat.zero_le _, rfl, hx3, hA0, ROB, World.ownsRow_nil _ _ _ _, .nil _ _⟩
  case round =>
    obtain ⟨k, rv, vs, hk, rfl, hb, hA, ROB, hown, hrf⟩ := hrel
    by_cases hlt : k < L.length
    · have q := HQL.out k hlt
      have hL2 := (hL.agree (w' := w3) (.refl _ _))
      obtain ⟨a1, c1, b1, d1, e0, e1, i1, i2⟩ := hL.at (.refl _ _) hlt
      have hne : (adr a9 (k * 2)).block ≠ OB := by
        rcases ad9 with ⟨h0, _⟩ | ⟨b, off, rfl, hb', hs⟩
        · omega
        · show b ≠ OB; have : w2.heap.size ≤ b := hs; omega
      have hlb : (adr a9 (k * 2)).block < w3.heap.size := World.block_lt_of_cell? _ _ e0
      have c0 := cell_agree e0 hA ⟨hlb, hne⟩
      have c1' := cell_agree e1 hA (show _ ∧ _ from ⟨hlb, hne⟩)
      have HT := Lib.hid (show (L.map (·.1)).take (k + 1) = (L.map (·.1)).take k ++ [(nthN L k).1] from by
        rw [take_nthL (by simpa using hlt)]
        congr 2
        simp [nthL, nthN, hlt])
      obtain ⟨l, hl⟩ : ∃ l, l = nthN L k := ⟨_, rfl⟩
      rw [← hl] at c0 c1' i1 i2 HT
      obtain ⟨rr, hrr⟩ : ∃ rr, rr = (L.map (·.1)).take k := ⟨_, rfl⟩
      rw [← hrr] at hown hrf HT
      have hrn : rr.length ≤ 4096 := by rw [hrr, List.length_take]; omega
      have hsz := hA.size
      have ha1 := adr_block ad9 (k := k * 2)
      have HRF := Lib.hid (hrf.snoc ((i1.block 0).mono fun b hb => hb))
      have OWN := Lib.hid (hown.alloc (.cells #[.slice a1 l.1.length c1, .slice b1 l.2.length d1] 69))
      have ROBa := ROB.alloc (.cells #[.slice a1 l.1.length c1, .slice b1 l.2.length d1] 69)
      have hOBr := ROB.lt
      obtain ⟨o0, o1⟩ := ROB.two
      clear hl hrr i2 hL2 ha1 e0 e1 hown hrf
      go_upto_region 9 with fail
      obtain ⟨w5, hw5⟩ : ∃ w5, w5 = wr.alloc (.cells #[.slice a1 l.1.length c1, .slice b1 l.2.length d1] 69) := ⟨_, rfl⟩
      obtain ⟨T9, hT9⟩ : ∃ T9, T9 = wr.heap.size := ⟨_, rfl⟩
      rw [← hw5, ← hT9]
      have R9 : Row w5 T9 69 [.slice a1 l.1.length c1, .slice b1 l.2.length d1] := by rw [hw5, hT9]; exact row_new _ _ _
      rw [← hw5] at OWN ROBa
      have hb5 : Below wr.heap.size wr w5 := by rw [hw5]; exact ext_alloc _ _
      clear hw5 hT9 o0 o1 c0 c1'
      obtain ⟨o0, o1⟩ := ROBa.two
      obtain ⟨p0, p1⟩ := R9.two
      have hsz5 := hb5.size
      go_wp2_with (at_builtin; refine wpList_push rfl _ _ 22 rfl 38 _ 24 Try.underlying22 info_ints rfl w3.heap.size _ _ _ rfl OWN.out (.slice a1 l.1.length c1) rfl rfl (by omega) (by omega) (by omega) ?_; intro g6 cp6 w6 hown6 hbel6 hag6 hat6; have R6 := ROBa.agree (S := fun b => b < w3.heap.size) (.of_below hbel6 fun b hb _ => hb) (by omega); have f6 := R6.free 1; have c6 := R6.cell (j := 1) rfl)
      have hset := grownBy_setCell w6 OB 1 (.slice (some ⟨g6, 0, none⟩) (rr.length + 1) cp6)
      have hA7 : Agree (fun b => b < w3.heap.size ∧ b ≠ OB) w3 (w6.setCell ⟨OB, 1, none⟩ (.slice (some ⟨g6, 0, none⟩) (rr.length + 1) cp6)) := ((hA.trans (.of_ext hb5)).trans (.of_below hbel6 fun b hb _ => hb.1)).trans (.of_grown hset fun b hb e => by cases e; exact hb.2 rfl)
      have ROB7 := by simpa using R6.set 1 (.slice (some ⟨g6, 0, none⟩) (rr.length + 1) cp6)
      have hb7 : Below w.heap.size w (w6.setCell ⟨OB, 1, none⟩ (.slice (some ⟨g6, 0, none⟩) (rr.length + 1) cp6)) := ((ext_trans hb hb5).trans (hbel6.mono (by omega))).setCell (by simp; omega) _
      have hown7 := owns_agree (S := fun b => b ≠ OB) hown6 (.of_grown hset fun b hb e => by cases e; exact hb rfl) (fun k' hk' => by have := (hown6.lt k' hk').1; omega)
      rw [show (rr.length + 1) = ((L.map (·.1)).take (k + 1)).length from by rw [HT.out]; simp] at hown7
      have hrf7 : RefsV (fun b => w2.heap.size ≤ b ∧ b < w3.heap.size) w3 (vs ++ [.slice a1 l.1.length c1]) ((L.map (·.1)).take (k + 1)) := by rw [HT.out]; exact HRF.out
      rw [show ((L.map (·.1)).take (k + 1)).length = rr.length + 1 from by rw [HT.out]; simp] at hown7
      clear hown6 hbel6 hag6 hat6 hset
      go_wp2
      go_roundw
      case rel => exact ⟨k + 1, _, _, by omega, by go_num, hb7, hA7, ROB7, by rw [show ((L.map (·.1)).take (k + 1)).length = rr.length + 1 from by rw [HT.out]; simp]; exact hown7, hrf7⟩
      case measure => simp [intOf]; omega
    · obtain rfl : k = L.length := by omega
      rw [List.take_of_length_le (by simp)] at hown hrf
      have hLs := Lists.of_own (S := fun b => w2.heap.size ≤ b) hown ((RefsV.agree hrf (hA.mono fun b hb => ⟨hb.2, by omega⟩)) |> fun h => (⟨h.1, fun j hj => (h.2 j hj).mono fun b hb => hb.1⟩ : RefsV (fun b => w2.heap.size ≤ b) wr vs (L.map (·.1)))) (fun b hb => by omega)
      rw [← HLL.out] at hLs
      obtain ⟨a8, c8, rfl, _⟩ := hLs.form
      obtain ⟨o0, o1⟩ := ROB.two
      have R1r := R1.agree (S := fun b => b < w3.heap.size ∧ b ≠ OB) hA ⟨by omega, by omega⟩
      obtain ⟨q10, q11⟩ := R1r.two
      have f10 := R1r.free 0
      have f11 := R1r.free 1
      go_wp2
      refine bodyPost_ret (v := .tuple #[.agg #[.int .i64 cols, .slice a8 (rowsE ⟨cols, ll⟩).length c8], .int .i64 0]) (by simp [results, Try.results16, go_sem, q10, q11]) rfl ?_
      exact .mk (set2_below _ _ hb (by omega)) (.mk R.out ((hLs.agree (set2_agree (B := w2.heap.size) _ _ (by omega))).mono fun b hb => by have : w2.heap.size ≤ b := hb; omega))
end Go.Proofs.Ytijmjliijjkcbaa
