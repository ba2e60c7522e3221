/- The program's elimination. -/
import Derived.Test.YtijmjliijjkcbaaMxReduce
import Derived.Test.YtijmjliijjkcbaaMxLd
import Derived.Deep.AppendLies
import Derived.Deep.DeepCutAuto
namespace Go.Proofs.Ytijmjliijjkcbaa
set_option linter.unusedVariables false
open Go.RowKit Go.Maps
attribute [local go_sem ↓] Go.wp_at_zero Go.wp_at_succ

theorem clone_calls {S : Nat → Prop} {w : World} {v : Value} {l : List Int} (h : Ints S w v l) (hn : l.length ≤ 1000000) :
    Calls Try.prog 66 #[v] w (Post w fun w' r => Ints (fun b => w.heap.size ≤ b) w' r l) := by
  have hw := h.wf
  obtain ⟨a, cap, rfl, ad, l1, lm, hc, hwf⟩ := h
  rcases ad with ⟨h0, hc0⟩ | ⟨b, off, rfl, hb, _⟩
  · have : l = [] := List.length_eq_zero_iff.1 h0
    subst this
    cases a with
    | none =>
      refine (Try.slices_Clone_int_nil 0 cap w).mono ?_
      rintro _ _ ⟨rfl, rfl⟩
      exact .same (.nil _ _)
    | some a =>
      refine (Try.slices_Clone_int_zero a cap w).mono ?_
      rintro _ w' ⟨v', rfl, ho, _, hb⟩
      exact .mk hb (Ints.of_own (l := []) ho (by simp))
  · refine (Try.slices_Clone_int b off l.length cap l w (Nat.le_refl _) (by omega) (fun j hj => hc j hj)).mono ?_
    rintro _ w' ⟨v', rfl, ho, _, hb⟩
    rw [List.take_length] at ho
    exact .mk hb (Ints.of_own ho hw)

def nthN (L : List Ln) (j : Nat) : Ln := L.getD j ([], [])
/-- A slice of lines. -/
def LinesV (S : Nat → Prop) (w : World) (v : Value) (L : List Ln) : Prop :=
  ∃ a cap, v = .slice a L.length cap ∧ Ad S w a L.length cap ∧ L.length ≤ cap ∧ cap ≤ maxLen ∧
    ∀ j, j < L.length → ∃ va vb, w.cell? (adr a (j * 2)) = some va ∧ w.cell? ⟨(adr a (j * 2)).block, (adr a (j * 2)).off + 1, none⟩ = some vb ∧ Ints S w va (nthN L j).1 ∧ Ints S w vb (nthN L j).2
theorem LinesV.agree {S : Nat → Prop} {w w' : World} {v : Value} {L : List Ln} (h : LinesV S w v L) (hw : Agree S w w') : LinesV S w' v L := by
  obtain ⟨a, cap, rfl, ad, h1, h2, hc⟩ := h
  refine ⟨a, cap, rfl, ad.agree hw, h1, h2, fun j hj => ?_⟩
  obtain ⟨va, vb, c0, c1, i0, i1⟩ := hc j hj
  have hbl : ∀ off, w'.cell? ⟨(adr a (j * 2)).block, off, none⟩ = w.cell? ⟨(adr a (j * 2)).block, off, none⟩ := fun off => by
    rcases ad with ⟨h0, _⟩ | ⟨b, off', rfl, hb, hs⟩
    · omega
    · exact World.cell?_of_block (hw.block b hs hb)
  have e0 : adr a (j * 2) = ⟨(adr a (j * 2)).block, (adr a (j * 2)).off, none⟩ := by unfold adr; split <;> rfl
  refine ⟨va, vb, ?_, (hbl _).trans c1, i0.agree hw, i1.agree hw⟩
  rw [e0, hbl, ← e0]; exact c0
theorem LinesV.ext {S : Nat → Prop} {w w' : World} {v : Value} {L : List Ln} (h : LinesV S w v L) (hw : Below w.heap.size w w') : LinesV S w' v L := h.agree (.of_ext hw)
theorem LinesV.mono {S S' : Nat → Prop} {w : World} {v : Value} {L : List Ln} (h : LinesV S w v L) (hS : ∀ b, S b → S' b) : LinesV S' w v L := by
  obtain ⟨a, cap, rfl, ad, h1, h2, hc⟩ := h
  refine ⟨a, cap, rfl, ad.mono hS, h1, h2, fun j hj => ?_⟩
  obtain ⟨va, vb, c0, c1, i0, i1⟩ := hc j hj
  exact ⟨va, vb, c0, c1, i0.mono hS, i1.mono hS⟩
def flat2 (ps : List (Value × Value)) : List Value := ps.flatMap fun p => [p.1, p.2]
theorem flat2_snoc (ps : List (Value × Value)) (x y : Value) : flat2 (ps ++ [(x, y)]) = flat2 ps ++ [x, y] := by simp [flat2]
theorem flat2_get (ps : List (Value × Value)) : ∀ j, (h : j < ps.length) → (flat2 ps)[j * 2]? = some (ps[j]).1 ∧ (flat2 ps)[j * 2 + 1]? = some (ps[j]).2 := by
  induction ps with
  | nil => intro j h; simp at h
  | cons p ps ih =>
    intro j h
    have e : flat2 (p :: ps) = p.1 :: p.2 :: flat2 ps := rfl
    cases j with
    | zero => rw [e]; exact ⟨rfl, rfl⟩
    | succ j =>
      have := ih j (by simpa using h)
      rw [e, show (j + 1) * 2 = j * 2 + 1 + 1 by omega]
      simpa using this
/-- Pairs that read as lines. -/
def PairsV (S : Nat → Prop) (w : World) (ps : List (Value × Value)) (L : List Ln) : Prop := ps.length = L.length ∧ ∀ j, (h : j < ps.length) → Ints S w (ps[j]).1 (nthN L j).1 ∧ Ints S w (ps[j]).2 (nthN L j).2
theorem PairsV.snoc {S : Nat → Prop} {w : World} {ps : List (Value × Value)} {L : List Ln} {x y : Value} {l : Ln} (h : PairsV S w ps L) (h1 : Ints S w x l.1) (h2 : Ints S w y l.2) : PairsV S w (ps ++ [(x, y)]) (L ++ [l]) := by
  refine ⟨by simp [h.1], fun j hj => ?_⟩
  by_cases hlt : j < ps.length
  · have := h.2 j hlt
    have hl : j < L.length := by rw [← h.1]; exact hlt
    rw [List.getElem_append_left hlt, show nthN (L ++ [l]) j = nthN L j from by simp [nthN, List.getElem?_append_left hl]]
    exact this
  · have hj' : j = ps.length := by simp at hj; omega
    subst hj'
    rw [show nthN (L ++ [l]) ps.length = l from by simp [nthN, h.1]]
    simp only [List.getElem_append_right (Nat.le_refl _), Nat.sub_self, List.getElem_cons_zero]
    exact ⟨h1, h2⟩
theorem LinesV.of_own {B : Nat} {S : Nat → Prop} {w0 w : World} {v : Value} {ps : List (Value × Value)} {L : List Ln} (ho : w.ownsRow B 69 2 v L.length (flat2 ps)) (hp : PairsV S w ps L) (hS : ∀ b, B ≤ b → S b) : LinesV S w v L := by
  rcases ho.2 with ⟨rfl, h0⟩ | ⟨g, cap, cur, rfl, hb, hg, hnc, hcm, _⟩
  · have : L = [] := List.length_eq_zero_iff.1 h0
    subst this
    exact ⟨none, 0, rfl, .inl ⟨rfl, rfl⟩, Nat.le_refl _, by simp [maxLen], fun j hj => by simp at hj⟩
  · refine ⟨_, cap, rfl, .inr ⟨g, 0, rfl, (Array.getElem?_eq_some_iff.1 hg).1, hS _ hb⟩, hnc, hcm, fun j hj => ?_⟩
    have hj' : j < ps.length := by rw [hp.1]; exact hj
    obtain ⟨e0, e1⟩ := flat2_get ps j hj'
    refine ⟨(ps[j]).1, (ps[j]).2, ?_, ?_, (hp.2 j hj').1, (hp.2 j hj').2⟩
    · rw [adr_add, Nat.zero_add, ho.cellAt (j * 2) (by omega), e0]
    · rw [adr_add]
      show w.cell? ⟨g, 0 + j * 2 + 1, none⟩ = _
      rw [Nat.zero_add, ho.cellAt (j * 2 + 1) (by omega), e1]
theorem info_line : (Try.prog.info? 69).map (fun i => (i.zero, i.size, i.bytes)) = some (some (.agg #[.slice none 0 0, .slice none 0 0]), 2, 48) := by kernel_rfl

theorem OwnList.agree2 {e : TypeId} {B : Nat} {w w' : World} {v : Value} {vs : List Value} {ll : List (List Int)} (h : OwnList e B w v vs ll) (hw : Agree (fun b => B ≤ b ∧ b < w.heap.size) w w') : OwnList e B w' v vs ll :=
  ⟨owns_agree h.row hw fun k hk => h.row.lt k hk, fun j hj => (((h.rows j hj).block 0).agree (hw.mono fun b hb => ⟨hb.1.1, hb.2⟩)).mono fun b hb => hb.1⟩
theorem ne_adr {S : Nat → Prop} {w : World} {a : Option Addr} {n cap k x : Nat} (h : Ad S w a n cap) (hk : k < n) (hx : ∀ b, S b → b ≠ x) : (adr a k).block ≠ x := by
  rcases h with ⟨rfl, _⟩ | ⟨b, off, rfl, hb, hs⟩
  · omega
  · exact hx b hs

/-- What the elimination returns. -/
def RetE (base : Nat) (c : Nat) (s : (Int → Option Ln) × List (List Int)) (w' : World) (r : Value) : Prop :=
  ∃ vl vd, r = .tuple #[vl, vd] ∧ LinesV (fun b => base ≤ b) w' vl (outTo s.1 c) ∧ Lists (fun b => base ≤ b) w' vd s.2

set_option maxRecDepth 100000 in
set_option maxHeartbeats 8000000 in
theorem echelon_calls {S : Nat → Prop} {w : World} {va : Value} {m : Mx} (ha : MatV S w va m) (ok : MOk m) :
    Calls Try.prog 48 #[va] w (Post w (RetE w.heap.size m.cols.toNat (echTo m.rows m.rows.length))) := by
  obtain ⟨cols, ll⟩ := m
  obtain ⟨ra, rfl, la⟩ := ha
  obtain ⟨aa, acap, rfl, aad, al1, alm⟩ := la.form
  dsimp only at la al1 aad ⊢
  unfold maxLen at alm
  have hls : ll.length ≤ 4096 := ok.r1
  have hc0 : 0 ≤ cols := ok.c0
  have hc1 : cols ≤ 4096 := ok.c1
  obtain ⟨n, hn⟩ : ∃ n : Nat, cols = (n : Int) := ⟨cols.toNat, by omega⟩
  subst hn
  simp only [Int.toNat_natCast]
  have ROK := Lib.hid (show ROk (n : Int) ll from ok.rok)
  have HINV := Lib.hid (EInv.all ROK.out)
  obtain ⟨i0, hi, hz0, hz1, hz2⟩ := info_parts info_ints
  obtain ⟨i2, hk, hx0, hx1, hx2⟩ := info_parts info_line
  have HQA := Lib.hid (idx_one Try.underlying22 hi hz1 aad)
  have hmm := @run_makeMap Try.prog
  obtain ⟨B, hB⟩ : ∃ B, B = w.heap.size + 1 + 1 + 1 := ⟨_, rfl⟩
  obtain ⟨w0, hw0⟩ : ∃ w0, w0 = ((w.alloc (.cells #[.int .i64 n, .slice aa ll.length acap] 24)).alloc (.map #[] 0)).alloc (.cells #[.map (some (w.heap.size + 1))] 83) := ⟨_, rfl⟩
  have ex : Below w.heap.size w w0 := by rw [hw0]; exact ext_alloc' (ext_alloc' (ext_alloc w _) _) _
  have r0 : Row w0 w.heap.size 24 [.int .i64 n, .slice aa ll.length acap] := by rw [hw0]; exact ((row_new w _ _).alloc _).alloc _
  have r2 : Row w0 (w.heap.size + 1 + 1) 83 [.map (some (w.heap.size + 1))] := by
    rw [hw0]
    have := row_new ((w.alloc (.cells #[.int .i64 n, .slice aa ll.length acap] 24)).alloc (.map #[] 0)) [.map (some (w.heap.size + 1))] 83
    simpa only [World.size_alloc] using this
  have hM0 : LeadV (fun b => B ≤ b ∧ Value.ownBlock (.slice none 0 0) ≠ some b) w0 (w.heap.size + 1) (echTo ll 0).1 0 (fun _ => none) := by
    refine ⟨?_, fun c _ => rfl, fun c l h => by cases h⟩
    rw [hw0]
    have := MapV.made KI (w.alloc (.cells #[.int .i64 n, .slice aa ll.length acap] 24))
    rw [World.size_alloc] at this
    exact this.alloc _
  have hB0 : B ≤ w0.heap.size := by rw [hw0, hB]; simp
  go_enter Try.func48, Try.ntmps48
  go_wp2
  rw [← hw0]
  have HBH := Lib.hid hB
  have hBlt : w.heap.size + 1 + 1 < B := by omega
  clear hmm hw0 hB
  go_loopw [6, 7, 8, 9, 10, 11, 21] (fun vd _ _ _ _ _ i wr => ∃ (k nn : Nat) (MV : Int → Option Value) (vs : List Value), k ≤ ll.length ∧ nn ≤ k ∧ i = .int .i64 k ∧ Below w.heap.size w wr ∧ B ≤ wr.heap.size ∧ Row wr w.heap.size 24 [.int .i64 n, .slice aa ll.length acap] ∧ Row wr (w.heap.size + 1 + 1) 83 [.map (some (w.heap.size + 1))] ∧
      LeadV (fun b => B ≤ b ∧ vd.ownBlock ≠ some b) wr (w.heap.size + 1) (echTo ll k).1 nn MV ∧ OwnList 38 B wr vd vs (echTo ll k).2) (fun _ _ _ _ _ _ i _ => ll.length - (intOf i).toNat)
  case atStart => exact ⟨0, 0, _, _, Nat.zero_le _, Nat.le_refl _, rfl, ex, hB0, r0, r2, hM0, .nil _ _ _⟩
  case round =>
    obtain ⟨k, nn, MV, vs, hk', hnn, rfl, hb, hBr, R0, R2, hM, hO⟩ := hrel
    obtain ⟨wo, hwo⟩ : ∃ wo : World, wo = wr := ⟨_, rfl⟩
    rw [← hwo] at hb hBr R0 R2 hM hO ⊢
    clear hwo
    obtain ⟨q00, q01⟩ := R0.two
    have q2 := R2.cell (j := 0) rfl
    by_cases hlt : k < ll.length
    · as_aux_lemma =>
      have q := HQA.out k hlt
      obtain ⟨u, cu, iu⟩ := la.at hb hlt
      have hrl := ROK.out.nth_len k
      have HE := Lib.hid (HINV.out k (by omega))
      have HX := Lib.hid (HE.out.xspec ROK.out hlt)
      obtain ⟨row, hrow⟩ : ∃ row, row = nthL ll k := ⟨_, rfl⟩
      obtain ⟨s, hs⟩ : ∃ s, s = echTo ll k := ⟨_, rfl⟩
      rw [← hrow] at hrl iu HX
      rw [← hs] at hM hO HE HX
      have HST : Hid (echTo ll (k + 1) = echStep s k row) := Lib.hid (by rw [hs, hrow]; rfl)
      have HG0 : Hid (GL n (k + 1) (row, [(k : Int)])) := Lib.hid ⟨hrow ▸ ROK.out.nth_ord k, hrow ▸ ROK.out.nth_rng k, List.pairwise_singleton _ _, fun x hx => by rw [List.mem_singleton.1 hx]; omega⟩
      clear hrow hs
      go_wp2_with fail
      refine (clone_calls iu (by omega)).mono ?_
      rintro _ w1 ⟨v1, rfl, hb1, iv⟩
      obtain ⟨a1, c1, rfl, _⟩ := iv.form
      go_wp2_with fail
      have hb1' := ext_alloc' hb1 (.cells #[.int .i64 (k : Int)] 3)
      have KR := reduce_calls (S := fun b => wo.heap.size ≤ b) (w := w1.alloc (.cells #[.int .i64 (k : Int)] 3)) (v0 := .agg #[.slice a1 row.length c1, .slice (some ⟨w1.heap.size, 0, none⟩) 1 1]) (x0 := (row, [(k : Int)])) (LB := w.heap.size + 1 + 1) (mb := w.heap.size + 1) (N := k) (N' := k + 1) (c := (n : Int))
        ⟨_, _, rfl, iv.ext (ext_alloc w1 _), ((row_new w1 [.int .i64 (k : Int)] 3).ints (l := [(k : Int)]) (by simp [maxLen]) (fun x hx => by rw [List.mem_singleton.1 hx]; exact WF.small (by omega))).mono fun b hb => by subst hb; exact hb1.size⟩ (cell_ext q2 hb1') (hM.ext hb1') HE.out.gm (by omega) HG0.out (by omega) (by omega)
      refine KR.mono ?_
      rintro _ w2 ⟨v2, rfl, hb2, lv2⟩
      clear KR q
      obtain ⟨x, hx⟩ : ∃ x, x = echX s k row := ⟨_, rfl⟩
      rw [show redP s.1 fuelP 0 (row, [(k : Int)]) = x from hx.symm] at lv2
      rw [← hx] at HX
      have HSX : Hid (echTo ll (k + 1) = if x.1.length = 0 then (s.1, s.2 ++ [x.2]) else (insM s.1 x, s.2)) := Lib.hid (by rw [HST.out, hx]; rfl)
      clear hx HST
      have hb3 : Below wo.heap.size wo w2 := hb1'.trans (hb2.mono hb1'.size)
      have lv := lv2.mono (S' := fun b => wo.heap.size ≤ b) fun b hb => by
        have h1 := hb1.size
        rcases hb with hb | hb
        · exact hb
        · simp only [World.size_alloc] at hb; omega
      obtain ⟨a2, c2, b2, d2, rfl, ia0, ib0⟩ := lv.form
      have hxl1 := small_len (c := (n : Int)) (by omega) HX.out.gl.o1 HX.out.gl.r1
      have hxl2 := small_len (c := ((k + 1 : Nat) : Int)) (by omega) HX.out.gl.o2 HX.out.gl.r2
      go_upto_region 8 with fail
      obtain ⟨w3, hw3⟩ : ∃ w3, w3 = w2.alloc (.cells #[.slice a2 x.1.length c2, .slice b2 x.2.length d2] 69) := ⟨_, rfl⟩
      obtain ⟨T9, hT9⟩ : ∃ T9, T9 = w2.heap.size := ⟨_, rfl⟩
      rw [← hw3, ← hT9]
      have hb4 : Below wo.heap.size wo w3 := by rw [hw3]; exact ext_alloc' hb3 _
      have R9 : Row w3 T9 69 [.slice a2 x.1.length c2, .slice b2 x.2.length d2] := by rw [hw3, hT9]; exact row_new w2 _ _
      have hT9B : wo.heap.size ≤ T9 := by rw [hT9]; exact hb3.size
      have ia : Ints (fun b => wo.heap.size ≤ b ∧ b < T9) w3 (.slice a2 x.1.length c2) x.1 := by rw [hw3, hT9]; exact (ia0.block 0).ext (ext_alloc w2 _)
      have ib : Ints (fun b => wo.heap.size ≤ b ∧ b < T9) w3 (.slice b2 x.2.length d2) x.2 := by rw [hw3, hT9]; exact (ib0.block 0).ext (ext_alloc w2 _)
      have hM := hM.ext hb4
      have R0 := R0.ext hb4
      have R2 := R2.ext hb4
      have hbw := ext_trans hb hb4
      have hT9l := R9.lt
      clear hw3 hT9 lv lv2 iv ia0 ib0 hb3 hb2 hb1' hb1 q00 q01 q2 cu iu hb
      obtain ⟨p0, p1⟩ := R9.two
      by_cases h0 : x.1.length = 0
      · have e0 : ((x.1.length : Int) == 0) = true := by simp [h0]
        rw [if_pos h0] at HSX
        have hown := hO.ext hb4
        have ORW := Lib.hid hown.row
        have HNB := Lib.hid (fun (k' : Nat) (h : u6.ownBlock = some k') => hO.row.lt k' h)
        have hdl : s.2.length ≤ 4096 := by have := HE.out.cnt; omega
        have hB3 : B ≤ w3.heap.size := by have := hb4.size; omega
        clear h0 hO
        go_wp2_with (at_builtin; refine wpList_push rfl _ _ 22 rfl 38 _ 24 Try.underlying22 info_ints rfl B _ _ _ rfl ORW.out (.slice b2 x.2.length d2) rfl rfl (by omega) (by omega) hB3 ?_; intro g6 cp6 w6 hown6 hbel6 hag6 hat6)
        have hb6 : Below w.heap.size w w6 := hbw.trans (hbel6.mono (by omega))
        have hB6 : B ≤ w6.heap.size := by have := hbel6.size; omega
        have R06 := R0.agree (S := fun b => b < B) (.of_below hbel6 fun b hb _ => hb) (show _ < _ by omega)
        have R26 := R2.agree (S := fun b => b < B) (.of_below hbel6 fun b hb _ => hb) (show _ < _ by omega)
        have hnew : OwnList 38 B w6 (.slice (some ⟨g6, 0, none⟩) (s.2.length + 1) cp6) (vs ++ [.slice b2 x.2.length d2]) (s.2 ++ [x.2]) :=
          hown.push hown6 hag6 (fun k' hk' => by simp [Value.ownBlock] at hk'; subst hk'; exact hat6) (ib.mono fun b hb => ⟨by omega, fun e => by have := (HNB.out b e).2; omega⟩)
        have hM6 : LeadV (fun b => B ≤ b ∧ Value.ownBlock (.slice (some ⟨g6, 0, none⟩) (s.2.length + 1) cp6) ≠ some b) w6 (w.heap.size + 1) s.1 nn MV :=
          (hM.block.agree (hag6 _ fun k' hk' h => h.1.2 hk') (hag6 _ fun k' hk' h => by have := (HNB.out k' hk').1; omega)).mono fun b hb => ⟨hb.1.1, fun e => by
            simp [Value.ownBlock] at e
            subst e
            rcases hat6 with h1 | h1
            · exact hb.1.2 h1
            · have := hb.2; omega⟩
        rw [show s.1 = (echTo ll (k + 1)).1 from by rw [HSX.out]] at hM6
        have hO6 : OwnList 38 B w6 (.slice (some ⟨g6, 0, none⟩) (s.2.length + 1) cp6) (vs ++ [.slice b2 x.2.length d2]) (echTo ll (k + 1)).2 := by rw [HSX.out]; exact hnew
        clear hown6 hbel6 hag6 hat6 hnew hown
        go_wp2
        go_roundw
        case rel => exact ⟨k + 1, nn, MV, _, by omega, by omega, by go_num, hb6, hB6, R06, R26, hM6, hO6⟩
        case measure => simp [intOf]; omega
      · have e0 : ((x.1.length : Int) == 0) = false := by simp; exact fun h => h0 (by rw [h]; rfl)
        have HNB := Lib.hid (fun (k' : Nat) (h : u6.ownBlock = some k') => hO.row.lt k' h)
        rw [if_neg h0] at HSX
        have hne : x.1 ≠ [] := fun e => h0 (by rw [e]; rfl)
        have q2 := R2.cell (j := 0) rfl
        have hMM := Lib.hid hM.map
        clear h0
        go_wp2_with (at_range; go_loud (refine wpList_rangeL rfl _ 83 rfl 69 Try.underlying83 rfl hMM.out ?_); intro w4 hrg4 hg4 hs4)
        try go_frame
        obtain ⟨r, hr⟩ : ∃ r, r = w3.heap.size := ⟨_, rfl⟩
        rw [← hr] at hrg4 ⊢
        have hb34 : Below w3.heap.size w3 w4 := (Below.refl _ _).grown hg4 (Nat.le_refl _) (fun k hk => by cases hk)
        have hbw4 := ext_trans hbw hb34
        have hB3 : B ≤ w3.heap.size := by have := hb4.size; omega
        have hmB : (w.heap.size + 1) < B := by omega
        have hrB : B ≤ r := by omega
        have hM4 : LeadV (fun b => (B ≤ b ∧ u6.ownBlock ≠ some b) ∧ b < r) w4 (w.heap.size + 1) (insL s.1 x (fun c => (MV c).isSome)) nn MV := by
          rw [insL_start (fun c => hM.isSome c), hr]
          exact hM.block.ext hb34
        have hAG : Agree (fun b => b ≠ (w.heap.size + 1) ∧ b ≠ r) w4 w4 := .refl _ _
        have hrw4 : r < w4.heap.size := by omega
        have HR := Lib.hid hr
        clear hr hMM hg4 hs4
        go_loopw [10, 11] (fun _ _ wi => ∃ (left : Int → Bool) (cnt : Nat) (MV' : Int → Option Value), Below w.heap.size w wi ∧ Agree (fun b => b ≠ (w.heap.size + 1) ∧ b ≠ r) w4 wi ∧ RangeV KI wi (w.heap.size + 1) r MV' nn left cnt ∧ LeadV (fun b => B ≤ b ∧ u6.ownBlock ≠ some b ∧ b ≠ r) wi (w.heap.size + 1) (insL s.1 x left) nn MV') (fun _ _ wi => wi.rangeLeft (w.heap.size + 1) r)
        case atStart => exact ⟨_, _, _, hbw4, hAG, hrg4, hM4.mono fun b hb => ⟨hb.1.1, hb.1.2, by omega⟩⟩
        case round =>
          obtain ⟨left, cnt, MV', hbi, hAi, hrg, hLi⟩ := hrel
          have hA3 : Agree (fun b => b ≠ (w.heap.size + 1) ∧ b < r) w3 wr := by rw [HR.out]; exact ((Agree.of_ext hb34)).trans ((by rw [← HR.out]; exact hAi : Agree (fun b => b ≠ (w.heap.size + 1) ∧ b ≠ w3.heap.size) w4 wr).mono fun b hb => ⟨hb.1, by omega⟩)
          have hlr := hrg.lt
          have R0i := R0.agree (S := fun b => b ≠ (w.heap.size + 1) ∧ b < r) hA3 ⟨by omega, by omega⟩
          have R2i := R2.agree (S := fun b => b ≠ (w.heap.size + 1) ∧ b < r) hA3 ⟨by omega, by omega⟩
          have R9i := R9.agree (S := fun b => b ≠ (w.heap.size + 1) ∧ b < r) hA3 ⟨by omega, by rw [HR.out]; exact hT9l⟩
          have iai := ia.agree (w' := wr) (hA3.mono fun b hb => ⟨by omega, by rw [HR.out]; omega⟩)
          have ibi := ib.agree (w' := wr) (hA3.mono fun b hb => ⟨by omega, by rw [HR.out]; omega⟩)
          obtain ⟨t, ht⟩ : ∃ t, x.1 = lead x.1 :: t := by
            cases h : x.1 with
            | nil => exact absurd h hne
            | cons y t => exact ⟨t, by simp [lead]⟩
          obtain ⟨p, hp⟩ : ∃ p, p = lead x.1 := ⟨_, rfl⟩
          rw [← hp] at ht
          have hpm : p ∈ x.1 := by rw [ht]; simp
          have hpr := HX.out.gl.r1 p hpm
          have hpn := HX.out.none p hpm
          have wfp : WF p := WF.small (by omega)
          have cp : wr.cell? (adr a2 0) = some (.int .i64 p) := by
            have h1 := iai
            rw [ht] at h1
            rw [show (p :: t).length = x.1.length from by rw [ht]] at h1
            exact ints_head h1 (.refl _ _)
          have had := ints_ad iai
          have hxpos : 0 < x.1.length := by rw [ht]; simp
          have qp : ∀ W : World, (Instr.indexAt 38 (.slice a2 x.1.length c2) (.int .i64 0)).run Try.prog W = .ok (.pointer (some (adr a2 0))) W := by
            obtain ⟨i3, hi3, _, hy1, _⟩ := info_parts info_int
            have := idx_one Try.underlying38 hi3 hy1 had 0 hxpos
            simpa using this
          have hadl := adr_block had hxpos
          obtain ⟨p0, p1⟩ := R9i.two
          have q2 := R2i.cell (j := 0) rfl
          have HP := Lib.hid hp
          have HRG := Lib.hid hrg
          clear hp ht hpm
          go_wp2_with (at_next; refine wpList_nextL rfl _ rfl rfl HRG.out ?_ ?_)
          · intro hl0
            go_upto_region 15 with fail
            have HP0 := HP
            have hA15 : Agree (fun b => b ≠ w.heap.size + 1 ∧ b < wr.heap.size) wr wr := .refl _ _
            have hMd : MapV KI wr.drew (w.heap.size + 1) MV' nn := HRG.out.mapV.agree (S := fun _ => True) ((Agree.refl _ _).drew) trivial
            have HMD := Lib.hid hMd
            have hR9l := R9i.lt
            have hR2l := R2i.lt
            have KEEP15 : Hid (∀ W', Agree (fun b => b ≠ w.heap.size + 1 ∧ b < wr.heap.size) wr W' → (fun w' : World => w'.cell? ⟨w.heap.size + 1 + 1, 0, none⟩ = some (.map (some (w.heap.size + 1))) ∧ w'.cell? ⟨T9, 0, none⟩ = some (.slice a2 x.1.length c2) ∧ w'.cell? ⟨T9, 1, none⟩ = some (.slice b2 x.2.length d2) ∧ w'.cell? (adr a2 0) = some (.int .i64 p)) W') := Lib.hid (fun W' hW' => ⟨cell_agree q2 hW' (show _ ∧ _ from ⟨by dsimp only; omega, by dsimp only; omega⟩), cell_agree p0 hW' (show _ ∧ _ from ⟨by dsimp only; omega, by dsimp only; omega⟩), cell_agree p1 hW' (show _ ∧ _ from ⟨by dsimp only; omega, by dsimp only; omega⟩), cell_agree cp hW' (show _ ∧ _ from ⟨ne_adr had hxpos (fun b hb => by omega), by omega⟩)⟩)
            have hnm : nn < maxLen := by unfold maxLen; omega
            clear hMd
            refine region_E (fun w' : World => w'.cell? ⟨w.heap.size + 1 + 1, 0, none⟩ = some (.map (some (w.heap.size + 1))) ∧ w'.cell? ⟨T9, 0, none⟩ = some (.slice a2 x.1.length c2) ∧ w'.cell? ⟨T9, 1, none⟩ = some (.slice b2 x.2.length d2) ∧ w'.cell? (adr a2 0) = some (.int .i64 p)) (fun i => false) (by kernel_rfl) ?_ (fun hHeld => ?_)
            · exact KEEP15.out _ hA15.drew
            refine anyE_take 0 (v := ?_) rfl (by kernel_rfl) (fun _ _ _ h => h) (by rfl) ?hy0m hHeld ?rest0m
            case hy0m => (intro w hSw; (try dsimp only at hSw); go_simp; try with_reducible rfl)
            try simp only [Act.put, List.setIfInBounds_toArray, List.set_cons_zero, List.set_cons_succ]
            refine anyE_take 1 (v := ?_) rfl (by kernel_rfl) (fun _ _ _ h => h) (by rfl) ?hy1m hHeld ?rest1m
            case hy1m => (intro w hSw; (try dsimp only at hSw); go_simp; try with_reducible rfl)
            try simp only [Act.put, List.setIfInBounds_toArray, List.set_cons_zero, List.set_cons_succ]
            refine anyE_take 2 (v := ?_) rfl (by kernel_rfl) (fun _ _ _ h => h) (by rfl) ?hy2m hHeld ?rest2m
            case hy2m => (intro w hSw; (try dsimp only at hSw); go_simp; try with_reducible rfl)
            try simp only [Act.put, List.setIfInBounds_toArray, List.set_cons_zero, List.set_cons_succ]
            refine anyE_take 3 (v := ?_) rfl (by kernel_rfl) (fun _ _ _ h => h) (by rfl) ?hy3m hHeld ?rest3m
            case hy3m => (intro w hSw; (try dsimp only at hSw); go_simp; try with_reducible rfl)
            try simp only [Act.put, List.setIfInBounds_toArray, List.set_cons_zero, List.set_cons_succ]
            refine anyE_take 4 (v := ?_) rfl (by kernel_rfl) (fun _ _ _ h => h) (by rfl) ?hy4m hHeld ?rest4m
            case hy4m => (intro w hSw; (try dsimp only at hSw); go_simp; try with_reducible rfl)
            try simp only [Act.put, List.setIfInBounds_toArray, List.set_cons_zero, List.set_cons_succ]
            refine anyE_take 5 (v := ?_) rfl (by kernel_rfl) (fun _ _ _ h => h) (by rfl) ?hy5m hHeld ?rest5m
            case hy5m => (intro w hSw; (try dsimp only at hSw); go_simp; try with_reducible rfl)
            try simp only [Act.put, List.setIfInBounds_toArray, List.set_cons_zero, List.set_cons_succ]
            refine anyE_one 6 rfl (by kernel_rfl) (fun K hK => ?_)
            refine step_updM (by rfl) _ _ _ 83 (by rfl) 69 Try.underlying83 (by rfl) HMD.out hnm p (by rfl) wfp (.agg #[.slice a2 x.1.length c2, .slice b2 x.2.length d2]) (by rfl) ?_; intro w12 hM12 hg12
            refine hK.out _ _ (fun _ => KEEP15.out _ (hA15.drew.trans (.of_grown hg12 fun b hb e => by cases e; exact hb.1 rfl))) (fun hHeld => ?_); replace hHeld := hHeld rfl
            clear hK K
            try simp only [Act.put]
            refine anyE_done (by kernel_rfl) ?_ _
            have hAg12 : Agree (fun b => b ≠ w.heap.size + 1) wr w12 := (Agree.refl _ _).drew.trans (.of_grown hg12 fun b hb e => by cases e; exact hb rfl)
            have hb12 : Below w.heap.size wr w12 := (Below.refl _ _).drew.grown hg12 (by simp; omega) (fun k' hk' => by cases hk'; omega)
            have hEQ : Hid (insM s.1 x = fun z => if z = p then some x else insL s.1 x left z) := Lib.hid (by
              rw [HP.out]
              refine insL_end hl0 (fun c hc => ?_) (by rw [← HP.out]; exact hpn)
              cases hm : s.1 c with
              | none => rfl
              | some l => exact absurd (WF.small (by have := HE.out.gm.rng hm; omega)) hc)
            have hlnx : LnV (fun b => B ≤ b ∧ u6.ownBlock ≠ some b ∧ b ≠ r) w12 (.agg #[.slice a2 x.1.length c2, .slice b2 x.2.length d2]) x :=
              ⟨_, _, rfl, (iai.agree (hAg12.mono fun b hb => by omega)).mono fun b hb => ⟨by omega, fun e => by have := (HNB.out b e).2; omega, by have := HR.out; omega⟩, (ibi.agree (hAg12.mono fun b hb => by omega)).mono fun b hb => ⟨by omega, fun e => by have := (HNB.out b e).2; omega, by have := HR.out; omega⟩⟩
            have hM12' := (hLi.upd (hAg12.mono fun b hb => by omega) hM12 hlnx).mono (S' := fun b => B ≤ b ∧ u6.ownBlock ≠ some b) fun b hb => ⟨hb.1, hb.2.1⟩
            have hMf : LeadV (fun b => B ≤ b ∧ u6.ownBlock ≠ some b) w12 (w.heap.size + 1) (echTo ll (k + 1)).1 (if (MV' p).isSome then nn else nn + 1) (fun z => if z = p then some (.agg #[.slice a2 x.1.length c2, .slice b2 x.2.length d2]) else MV' z) := by
              rw [HSX.out]; show LeadV _ _ _ (insM s.1 x) _ _; rw [hEQ.out]; exact hM12'
            have hA312 : Agree (fun b => b ≠ w.heap.size + 1 ∧ b < r) w3 w12 := hA3.trans (hAg12.mono fun b hb => hb.1)
            have hOf : OwnList 38 B w12 u6 vs (echTo ll (k + 1)).2 := by
              rw [HSX.out]; exact (hO.ext hb4).agree2 (hA312.mono fun b hb => ⟨by omega, by have := HR.out; omega⟩)
            have R0f := R0.agree (S := fun b => b ≠ w.heap.size + 1 ∧ b < r) hA312 ⟨by omega, by omega⟩
            have R2f := R2.agree (S := fun b => b ≠ w.heap.size + 1 ∧ b < r) hA312 ⟨by omega, by omega⟩
            have hnn' : (if (MV' p).isSome then nn else nn + 1) ≤ k + 1 := by split <;> omega
            have hbF := hbi.trans hb12
            have hBF : B ≤ w12.heap.size := by have := hA312.size; omega
            clear hM12' hlnx hM12 hg12 hAg12 hb12
            go_wp2
            go_roundw
            case rel => exact ⟨k + 1, _, _, vs, by omega, hnn', by go_num, hbF, hBF, R0f, R2f, hMf, hOf⟩
            case measure => simp [intOf]; omega
          · intro c y w5 cnt5 hwc hlc hy hrg5 hlt5 hg5 hs5 hen
            have HS5 := Lib.hid hs5
            obtain ⟨left2, hl2⟩ : ∃ l' : Int → Bool, l' = cutL left c := ⟨_, rfl⟩
            rw [← hl2] at hrg5
            have HL2 := Lib.hid hl2
            clear hs5 hl2
            have hcs : insL s.1 x left c = s.1 c := by unfold insL; rw [if_pos hlc]
            have hsm := hLi.isSome c
            rw [hy, hcs] at hsm
            obtain ⟨l, hl⟩ : ∃ l, s.1 c = some l := by
              cases h : s.1 c with
              | none => rw [h] at hsm; cases hsm
              | some l => exact ⟨l, rfl⟩
            obtain ⟨v, hv, hlv⟩ := hLi.som c l (hcs.trans hl)
            rw [hy] at hv
            cases hv
            obtain ⟨a3, c3, b3, d3, rfl, il1, il2⟩ := hlv.form
            have hgl := HE.out.gm.gl c l hl
            have hll1 := small_len (c := (n : Int)) (by omega) hgl.o1 hgl.r1
            have hll2 := small_len (c := (k : Int)) (by omega) hgl.o2 hgl.r2
            have HGLO := Lib.hid hgl.o1
            have HIL : Hid (insL s.1 x left2 = fun z => if z = c then some (if memB l.1 (lead x.1) = true then addL l x else l) else insL s.1 x left z) := Lib.hid (by rw [HL2.out]; exact insL_step (x := x) hlc hl)
            have HCS := Lib.hid (hcs.trans hl)
            have HY := Lib.hid hy
            have hAg5 : Agree (fun b => b ≠ r) wr w5 := .of_grown hg5 fun b hb e => by cases e; exact hb rfl
            have hb5 : Below w.heap.size wr w5 := (Below.refl _ _).grown hg5 (by omega) (fun k' hk' => by cases hk'; omega)
            clear hcs hsm hy hl hgl hlv
            go_upto_region 13 with fail
            obtain ⟨w7, hw7⟩ : ∃ w7, w7 = w5.alloc (.cells #[.slice a3 l.1.length c3, .slice b3 l.2.length d3] 69) := ⟨_, rfl⟩
            obtain ⟨T11, hT11⟩ : ∃ T11, T11 = w5.heap.size := ⟨_, rfl⟩
            rw [← hw7, ← hT11]
            have R11 : Row w7 T11 69 [.slice a3 l.1.length c3, .slice b3 l.2.length d3] := by rw [hw7, hT11]; exact row_new w5 _ _
            have hb57 : Below w5.heap.size w5 w7 := by rw [hw7]; exact ext_alloc w5 _
            have hT11r : wr.heap.size ≤ T11 := by have := HS5.out; omega
            have hAg7 : Agree (fun b => b ≠ r) wr w7 := hAg5.trans (.of_ext hb57)
            have hb7 : Below w.heap.size wr w7 := hb5.trans (hb57.mono (by have := HS5.out; omega))
            have hA37 : Agree (fun b => b ≠ w.heap.size + 1 ∧ b < r) w3 w7 := hA3.trans (hAg7.mono fun b hb => by omega)
            have hrg7 := hrg5.ext hb57
            have R9j := R9.agree (S := fun b => b ≠ w.heap.size + 1 ∧ b < r) hA37 ⟨by omega, by rw [HR.out]; exact hT9l⟩
            have iaj := ia.agree (w' := w7) (hA37.mono fun b hb => ⟨by omega, by rw [HR.out]; omega⟩)
            have ibj := ib.agree (w' := w7) (hA37.mono fun b hb => ⟨by omega, by rw [HR.out]; omega⟩)
            have ilj1 := il1.agree (w' := w7) (hAg7.mono fun b hb => hb.2.2)
            have ilj2 := il2.agree (w' := w7) (hAg7.mono fun b hb => hb.2.2)
            have hLj : LeadV (fun b => B ≤ b ∧ u6.ownBlock ≠ some b ∧ b ≠ r) w7 (w.heap.size + 1) (insL s.1 x left) nn MV' := hLi.same (hAg7.mono fun b hb => hb.2.2) hrg7.mapV rfl
            have q2j := cell_agree q2 hAg7 (show _ ≠ _ by dsimp only; omega)
            have cpj := cell_agree cp hAg7 (ne_adr had hxpos (fun b hb => by have := HR.out; omega))
            have HH := Lib.hid (fun nq => has_quiet (ilj1.drewN nq) HGLO.out (by omega) p)
            clear hw7 hT11 hen hg5 hrg5 hb5 hb57 hAg5 hLi il1 il2 cp p0 p1 q2
            obtain ⟨p0, p1⟩ := R9j.two
            obtain ⟨p2, p3⟩ := R11.two
            cases hmm : memB l.1 p with
            | false =>
              rw [hmm] at HH
              have hEQ2 : Hid (insL s.1 x left2 = insL s.1 x left) := Lib.hid (by
                rw [HIL.out, ← HP.out, hmm]
                funext z
                by_cases hz : z = c
                · subst hz; rw [if_pos rfl]; simp [HCS.out]
                · rw [if_neg hz])
              go_quiet ((go_at_call 50; exact quiet_calls (HH.out _)))
              have hbd : Below w7.heap.size w7 (w7.drewN nq) := drewN_below _ _ _
              have hbF := (hbi.trans hb7).trans (hbd.mono (by have := hA37.size; omega))
              have hAF := (hAi.trans (hAg7.mono fun b hb => hb.2)).trans (Agree.of_ext hbd)
              have hRF := hrg7.ext hbd
              have hLF : LeadV (fun b => B ≤ b ∧ u6.ownBlock ≠ some b ∧ b ≠ r) (w7.drewN nq) (w.heap.size + 1) (insL s.1 x left2) nn MV' := by rw [hEQ2.out]; exact hLj.ext hbd
              have hms : (w7.drewN nq).rangeLeft (w.heap.size + 1) r < wr.rangeLeft (w.heap.size + 1) r := by rw [hRF.left_eq, HRG.out.left_eq]; exact hlt5
              go_wp2
              go_roundw
              case rel => exact ⟨_, _, _, hbF, hAF, hRF, hLF⟩
              case measure => exact hms
            | true =>
              rw [hmm] at HH
              have hEQ2 : Hid (insL s.1 x left2 = fun z => if z = c then some (addL l x) else insL s.1 x left z) := Lib.hid (by
                rw [HIL.out, ← HP.out, hmm]; rfl)
              go_quiet ((go_at_call 50; exact quiet_calls (HH.out _)))
              obtain ⟨w8, hw8⟩ : ∃ w8, w8 = w7.drewN nq := ⟨_, rfl⟩
              rw [← hw8]
              have hb78 : Below w7.heap.size w7 w8 := by rw [hw8]; exact drewN_below _ _ _
              clear hw8
              go_upto_region 14 with fail
              have R9k := R9j.ext hb78
              have R11k := R11.ext hb78
              have q2k := cell_ext q2j hb78
              obtain ⟨p0, p1⟩ := R9k.two
              obtain ⟨p2, p3⟩ := R11k.two
              have HS1 := Lib.hid (fun W (hW : Below w8.heap.size w8 W) => sum_calls ((ilj1.ext hb78).ext hW) ((iaj.ext hb78).ext hW) (by omega))
              have HS2 := Lib.hid (fun W (hW : Below w8.heap.size w8 W) => sum_calls ((ilj2.ext hb78).ext hW) ((ibj.ext hb78).ext hW) (by omega))
              have h9l := R9k.lt
              have h11l := R11k.lt
              have hR2l := World.block_lt_of_cell? w8 _ q2k
              dsimp only at hR2l
              have h37s := hA37.size
              have hA14 : Agree (fun b => b ≠ w.heap.size + 1 ∧ b < w8.heap.size) w8 w8 := .refl _ _
              have KEEP14 : Hid (∀ W', Agree (fun b => b ≠ w.heap.size + 1 ∧ b < w8.heap.size) w8 W' → (fun w' : World => w'.cell? ⟨w.heap.size + 1 + 1, 0, none⟩ = some (.map (some (w.heap.size + 1))) ∧ w'.cell? ⟨T11, 0, none⟩ = some (.slice a3 l.1.length c3) ∧ w'.cell? ⟨T11, 1, none⟩ = some (.slice b3 l.2.length d3) ∧ w'.cell? ⟨T9, 0, none⟩ = some (.slice a2 x.1.length c2) ∧ w'.cell? ⟨T9, 1, none⟩ = some (.slice b2 x.2.length d2)) W') := Lib.hid (fun W' hW' => ⟨cell_agree q2k hW' (show _ ∧ _ from ⟨by dsimp only; omega, by dsimp only; omega⟩), cell_agree p2 hW' (show _ ∧ _ from ⟨by dsimp only; omega, by dsimp only; omega⟩), cell_agree p3 hW' (show _ ∧ _ from ⟨by dsimp only; omega, by dsimp only; omega⟩), cell_agree p0 hW' (show _ ∧ _ from ⟨by dsimp only; omega, by dsimp only; omega⟩), cell_agree p1 hW' (show _ ∧ _ from ⟨by dsimp only; omega, by dsimp only; omega⟩)⟩)
              have HRG8 := Lib.hid (hrg7.ext hb78)
              have HSOME : Hid ((MV' c).isSome = true) := Lib.hid (by rw [HY.out]; rfl)
              refine region_E (fun w' : World => w'.cell? ⟨w.heap.size + 1 + 1, 0, none⟩ = some (.map (some (w.heap.size + 1))) ∧ w'.cell? ⟨T11, 0, none⟩ = some (.slice a3 l.1.length c3) ∧ w'.cell? ⟨T11, 1, none⟩ = some (.slice b3 l.2.length d3) ∧ w'.cell? ⟨T9, 0, none⟩ = some (.slice a2 x.1.length c2) ∧ w'.cell? ⟨T9, 1, none⟩ = some (.slice b2 x.2.length d2)) (fun i => false) (by kernel_rfl) ?_ (fun hHeld => ?_)
              · exact KEEP14.out _ hA14.drew
              refine anyE_take 0 (v := ?_) rfl (by kernel_rfl) (fun _ _ _ h => h) (by rfl) ?hy0o hHeld ?rest0o
              case hy0o => (intro w hSw; (try dsimp only at hSw); go_simp; try with_reducible rfl)
              try simp only [Act.put, List.setIfInBounds_toArray, List.set_cons_zero, List.set_cons_succ]
              refine anyE_take 1 (v := ?_) rfl (by kernel_rfl) (fun _ _ _ h => h) (by rfl) ?hy1o hHeld ?rest1o
              case hy1o => (intro w hSw; (try dsimp only at hSw); go_simp; try with_reducible rfl)
              try simp only [Act.put, List.setIfInBounds_toArray, List.set_cons_zero, List.set_cons_succ]
              refine anyE_take 2 (v := ?_) rfl (by kernel_rfl) (fun _ _ _ h => h) (by rfl) ?hy2o hHeld ?rest2o
              case hy2o => (intro w hSw; (try dsimp only at hSw); go_simp; try with_reducible rfl)
              try simp only [Act.put, List.setIfInBounds_toArray, List.set_cons_zero, List.set_cons_succ]
              refine anyE_take 3 (v := ?_) rfl (by kernel_rfl) (fun _ _ _ h => h) (by rfl) ?hy3o hHeld ?rest3o
              case hy3o => (intro w hSw; (try dsimp only at hSw); go_simp; try with_reducible rfl)
              try simp only [Act.put, List.setIfInBounds_toArray, List.set_cons_zero, List.set_cons_succ]
              refine anyE_take 4 (v := ?_) rfl (by kernel_rfl) (fun _ _ _ h => h) (by rfl) ?hy4o hHeld ?rest4o
              case hy4o => (intro w hSw; (try dsimp only at hSw); go_simp; try with_reducible rfl)
              try simp only [Act.put, List.setIfInBounds_toArray, List.set_cons_zero, List.set_cons_succ]
              refine anyE_take 5 (v := ?_) rfl (by kernel_rfl) (fun _ _ _ h => h) (by rfl) ?hy5o hHeld ?rest5o
              case hy5o => (intro w hSw; (try dsimp only at hSw); go_simp; try with_reducible rfl)
              try simp only [Act.put, List.setIfInBounds_toArray, List.set_cons_zero, List.set_cons_succ]
              refine anyE_take 7 (v := ?_) rfl (by kernel_rfl) (fun _ _ _ h => h) (by rfl) ?hy7o hHeld ?rest7o
              case hy7o => (intro w hSw; (try dsimp only at hSw); go_simp; try with_reducible rfl)
              try simp only [Act.put, List.setIfInBounds_toArray, List.set_cons_zero, List.set_cons_succ]
              refine anyE_take 8 (v := ?_) rfl (by kernel_rfl) (fun _ _ _ h => h) (by rfl) ?hy8o hHeld ?rest8o
              case hy8o => (intro w hSw; (try dsimp only at hSw); go_simp; try with_reducible rfl)
              try simp only [Act.put, List.setIfInBounds_toArray, List.set_cons_zero, List.set_cons_succ]
              refine anyE_take 9 (v := ?_) rfl (by kernel_rfl) (fun _ _ _ h => h) (by rfl) ?hy9o hHeld ?rest9o
              case hy9o => (intro w hSw; (try dsimp only at hSw); go_simp; try with_reducible rfl)
              try simp only [Act.put, List.setIfInBounds_toArray, List.set_cons_zero, List.set_cons_succ]
              refine anyE_take 10 (v := ?_) rfl (by kernel_rfl) (fun _ _ _ h => h) (by rfl) ?hy10o hHeld ?rest10o
              case hy10o => (intro w hSw; (try dsimp only at hSw); go_simp; try with_reducible rfl)
              try simp only [Act.put, List.setIfInBounds_toArray, List.set_cons_zero, List.set_cons_succ]
              refine anyE_one 6 rfl (by kernel_rfl) (fun K hK => ?_)
              go_simp; go_at_call 58; refine (HS1.out _ (drewN_below _ _ 1)).mono ?_; rintro _ w9 ⟨v9, rfl, hb9, hx9⟩; obtain ⟨a9, c9, rfl, _⟩ := hx9.form; have hb89 : Below w8.heap.size w8 w9 := ext_trans (drewN_below _ _ 1) hb9; have hA9 : Agree (fun b => b ≠ w.heap.size + 1 ∧ b < w8.heap.size) w8 w9 := .of_ext hb89
              refine hK.out _ _ (fun _ => KEEP14.out _ hA9) (fun hHeld => ?_); replace hHeld := hHeld rfl
              clear hK K
              try simp only [Act.put, List.setIfInBounds_toArray, List.set_cons_zero, List.set_cons_succ]
              refine anyE_one 11 rfl (by kernel_rfl) (fun K hK => ?_)
              go_simp; go_at_call 58; refine (HS2.out _ hb89).mono ?_; rintro _ w10 ⟨v10, rfl, hb10, hx10⟩; obtain ⟨a10, c10, rfl, _⟩ := hx10.form; have hb810 := ext_trans hb89 hb10; have hA10 : Agree (fun b => b ≠ w.heap.size + 1 ∧ b < w8.heap.size) w8 w10 := .of_ext hb810; have HRG10 := Lib.hid (HRG8.out.ext hb810)
              refine hK.out _ _ (fun _ => KEEP14.out _ hA10) (fun hHeld => ?_); replace hHeld := hHeld rfl
              clear hK K
              try simp only [Act.put, List.setIfInBounds_toArray, List.set_cons_zero, List.set_cons_succ]
              refine anyE_take 12 (v := ?_) rfl (by kernel_rfl) (fun _ _ _ h => h) (by rfl) ?hy12o hHeld ?rest12o
              case hy12o => (intro w hSw; (try dsimp only at hSw); go_simp; try with_reducible rfl)
              try simp only [Act.put, List.setIfInBounds_toArray, List.set_cons_zero, List.set_cons_succ]
              refine anyE_one 13 rfl (by kernel_rfl) (fun K hK => ?_)
              refine step_updR (by rfl) _ _ _ 83 (by rfl) 69 Try.underlying83 (by rfl) HRG10.out c (by rfl) hwc HSOME.out (.agg #[.slice a9 (xorL l.1 x.1).length c9, .slice a10 (xorL l.2 x.2).length c10]) (by rfl) ?_; intro w11 hrg11 hg11
              refine hK.out _ _ (fun _ => KEEP14.out _ (hA10.trans (.of_grown hg11 fun b hb e => by cases e; exact hb.1 rfl))) (fun hHeld => ?_); replace hHeld := hHeld rfl
              clear hK K
              try simp only [Act.put]
              refine anyE_done (by kernel_rfl) ?_ _
              have h8s := hb78.size
              have h89s := hb89.size
              have h810s := hb810.size
              have hAg11 : Agree (fun b => b ≠ w.heap.size + 1) w10 w11 := .of_grown hg11 fun b hb e => by cases e; exact hb rfl
              have hA711 : Agree (fun b => b ≠ w.heap.size + 1) w7 w11 := ((Agree.of_ext hb78).trans (.of_ext hb810)).trans hAg11
              have hl9 : LnV (fun b => B ≤ b ∧ u6.ownBlock ≠ some b ∧ b ≠ r) w11 (.agg #[.slice a9 (xorL l.1 x.1).length c9, .slice a10 (xorL l.2 x.2).length c10]) (addL l x) :=
                ⟨_, _, rfl, ((hx9.ext hb10).agree (hAg11.mono fun b hb => by have : w8.heap.size ≤ b := hb; omega)).mono fun b hb => (by have h9 : w8.heap.size ≤ b := hb; exact ⟨by omega, fun e => by have := (HNB.out b e).2; omega, by omega⟩),
                  (hx10.agree (hAg11.mono fun b hb => by have : w9.heap.size ≤ b := hb; omega)).mono fun b hb => (by have h9 : w9.heap.size ≤ b := hb; exact ⟨by omega, fun e => by have := (HNB.out b e).2; omega, by omega⟩)⟩
              have hLF := hLj.upd (hA711.mono fun b hb => by omega) hrg11.mapV hl9
              rw [← hEQ2.out] at hLF
              have hAF := (hAi.trans (hAg7.mono fun b hb => hb.2)).trans (hA711.mono fun b hb => hb.1)
              have hbF : Below w.heap.size w w11 := ((hbi.trans hb7).trans ((hb78.mono (by omega)).trans (hb810.mono (by omega)))).trans ((Below.refl _ _).grown hg11 (by omega) (fun k' hk' => by cases hk'; omega))
              have hms : w11.rangeLeft (w.heap.size + 1) r < wr.rangeLeft (w.heap.size + 1) r := by rw [hrg11.left_eq, HRG.out.left_eq]; exact hlt5
              clear hl9 hg11 hAg11 hA711
              go_wp2
              go_roundw
              case rel => exact ⟨_, _, _, hbF, hAF, hrg11, hLF⟩
              case measure => exact hms
    · as_aux_lemma =>
      obtain rfl : k = ll.length := by omega
      have HE := Lib.hid (HINV.out ll.length (Nat.le_refl _))
      obtain ⟨s, hs⟩ : ∃ s, s = echTo ll ll.length := ⟨_, rfl⟩
      rw [← hs] at hM hO HE
      have HSS := Lib.hid hs
      clear hs
      have hwo := Below.refl wo.heap.size wo
      have hL0 : (outTo s.1 0).length = 0 := rfl
      go_wp2
      go_loopw [12, 13, 14, 15, 78, 81] (fun vo _ _ _ i _ wr => ∃ (c : Nat) (ps : List (Value × Value)), c ≤ n ∧ i = .int .i64 c ∧ Below wo.heap.size wo wr ∧ wr.ownsRow wo.heap.size 69 2 vo (outTo s.1 c).length (flat2 ps) ∧ PairsV (fun b => B ≤ b) wo ps (outTo s.1 c)) (fun _ _ _ _ i _ _ => n - (intOf i).toNat)
      case atStart => exact ⟨0, [], Nat.zero_le _, rfl, hwo, World.ownsRow_nil _ _ _ _, rfl, fun j hj => by simp at hj⟩
      case round =>
        obtain ⟨c, ps, hc, rfl, hbr, hown, hps⟩ := hrel
        by_cases hcn : c < n
        · have R2r := R2.ext hbr
          have q2r := R2r.cell (j := 0) rfl
          have hMr := hM.ext hbr
          have wfc : WF (c : Int) := WF.small (by omega)
          have hol : (outTo s.1 c).length ≤ 4096 := by
            rw [outTo_length]; exact Nat.le_trans (List.countP_le_length) (by simp; omega)
          have HSU := Lib.hid (outTo_succ s.1 c)
          have hlok : ∀ (u : Value) (q : Bool), (MV (c : Nat)).getD (.agg #[.slice none 0 0, .slice none 0 0]) = u → (MV (c : Nat)).isSome = q → ∀ W : World, Agree (fun b => b = w.heap.size + 1) wr W → (Instr.lookup 83 (.map (some (w.heap.size + 1))) (.int .i64 (c : Int)) true).run Try.prog W = .ok (.tuple #[u, .bool q]) W := fun u q hu hq W hW => by
            have := (hMr.map.agree hW rfl).look (t := 83) (e := 69) Try.underlying83 (zero_line W) (x := (c : Int)) wfc true
            rw [hu, hq] at this
            exact this
          cases hm : s.1 (c : Nat) with
          | none =>
            rw [hm] at HSU
            have hl := hlok _ _ rfl rfl wr (.refl _ _)
            rw [hMr.non _ hm] at hl
            simp only [Option.getD_none, Option.isSome_none] at hl
            clear hm hlok hMr
            go_wp2
            have hb2 := ext_alloc' hbr (.cells #[.slice none 0 0, .slice none 0 0] 69)
            have ho2 := hown.alloc (.cells #[.slice none 0 0, .slice none 0 0] 69)
            rw [← show outTo s.1 (c + 1) = outTo s.1 c from by rw [HSU.out]; simp] at ho2 hps
            go_roundw
            case rel => exact ⟨c + 1, ps, by omega, by go_num, hb2, ho2, hps⟩
            case measure => simp [intOf]; omega
          | some l =>
            rw [hm] at HSU
            obtain ⟨v, hv, hlv⟩ := hM.som _ l hm
            obtain ⟨a1, c1, b1, d1, rfl, il1, il2⟩ := hlv.form
            have hl := hlok _ _ rfl rfl wr (.refl _ _)
            rw [hv] at hl
            simp only [Option.getD_some, Option.isSome_some] at hl
            have hpn := hps.snoc (l := l) (il1.mono fun b hb => hb.1) (il2.mono fun b hb => hb.1)
            have HSU2 : Hid (outTo s.1 (c + 1) = outTo s.1 c ++ [l]) := HSU
            have HPN := Lib.hid hpn
            clear hm hlok hMr HSU hps hpn hv
            go_upto_region 23 with fail
            obtain ⟨w2, hw2⟩ : ∃ w2, w2 = wr.alloc (.cells #[.slice a1 l.1.length c1, .slice b1 l.2.length d1] 69) := ⟨_, rfl⟩
            obtain ⟨T14, hT14⟩ : ∃ T14, T14 = wr.heap.size := ⟨_, rfl⟩
            rw [← hw2, ← hT14]
            have R14 : Row w2 T14 69 [.slice a1 l.1.length c1, .slice b1 l.2.length d1] := by rw [hw2, hT14]; exact row_new wr _ _
            have hb2 : Below wo.heap.size wo w2 := by rw [hw2]; exact ext_alloc' hbr _
            have ho2 : w2.ownsRow wo.heap.size 69 2 u12 (outTo s.1 c).length (flat2 ps) := by rw [hw2]; exact hown.alloc _
            have HO2 := Lib.hid ho2
            have hb2s := hb2.size
            obtain ⟨p0, p1⟩ := R14.two
            clear hw2 hT14 hown ho2 hl q2r
            have B1 := Lib.hid (show (outTo s.1 c).length + 1 ≤ maxLen by unfold maxLen; omega)
            have B2 := Lib.hid (show ((outTo s.1 c).length + 1) * 48 ≤ 140737488355328 by omega)
            go_wp2_with (at_builtin; refine wpList_append_lies _ rfl _ _ 65 rfl wo.heap.size 69 i2 _ 2 48 Try.underlying65 hk hx0 hx1 hx2 rfl (by decide) _ _ _ rfl (HO2.out.alloc _) ⟨w2.heap.size, 0, none⟩ 1 1 [.slice a1 l.1.length c1, .slice b1 l.2.length d1] rfl rfl (World.news_of_block (cs := #[.slice a1 l.1.length c1, .slice b1 l.2.length d1]) (t := 69) (fr := (0, 0)) (heap_alloc_new w2 _)) (by simp [Value.oneCell']) (by decide) B1.out B2.out (by simp; omega) (w2.heap.size + 1) (by simp) ?_; intro g6 cp6 w6 hown6 hgrow6 hat6 hlt6)
            have hb6 : Below wo.heap.size wo w6 := (hb2.alloc hb2s _).grown hgrow6 (by simp; omega) (fun k' hk' => (HO2.out.lt k' hk').1)
            have ho6 : w6.ownsRow wo.heap.size 69 2 (.slice (some ⟨g6, 0, none⟩) ((outTo s.1 c).length + 1) cp6) (outTo s.1 (c + 1)).length (flat2 (ps ++ [(.slice a1 l.1.length c1, .slice b1 l.2.length d1)])) := by
              rw [HSU2.out, flat2_snoc, List.length_append]; exact hown6
            have hps6 : PairsV (fun b => B ≤ b) wo (ps ++ [(.slice a1 l.1.length c1, .slice b1 l.2.length d1)]) (outTo s.1 (c + 1)) := by rw [HSU2.out]; exact HPN.out
            clear hown6 hgrow6 hat6 hlt6
            go_wp2
            go_roundw
            case rel => exact ⟨c + 1, _, by omega, by go_num, hb6, ho6, hps6⟩
            case measure => simp [intOf]; omega
        · obtain rfl : c = n := by omega
          have hbw := ext_trans hb hbr
          have hLs : LinesV (fun b => B ≤ b) wr u12 (outTo s.1 c) := LinesV.of_own (w0 := wo) hown ⟨hps.1, fun j hj => ⟨((hps.2 j hj).1).ext hbr, ((hps.2 j hj).2).ext hbr⟩⟩ (fun b hb => by omega)
          have hDs := (hO.lists).ext hbr
          go_wp2
          go_ret2
          have hret : RetE w.heap.size c s wr (.tuple #[u12, u6]) := ⟨u12, u6, rfl, hLs.mono fun b hb => by omega, hDs.mono fun b hb => by omega⟩
          rw [HSS.out] at hret
          exact .mk hbw hret
end Go.Proofs.Ytijmjliijjkcbaa
