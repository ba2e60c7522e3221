/- A row of graphs is well-formed. -/
import Derived.Test.YtmlgbaogkbfklaaDoorGrEq
namespace Go.Proofs.YtmlgbaogkbfklaaDoor
set_option linter.unusedVariables false
open Go.RowKit
attribute [local go_sem ↓] Go.wp_at_zero Go.wp_at_succ

theorem row_set6 {w : World} {g : Nat} {e : TypeId} {a b c d x y : Value} (h : Row w g e [a, b, c, d, x, y]) (n : Int) (f : Nat → Int) :
    Row ((((((w.setCell ⟨g, 0, none⟩ (.int .i64 n)).setCell ⟨g, 1, none⟩ (.int .i64 (f 0))).setCell ⟨g, 2, none⟩ (.int .i64 (f 1))).setCell ⟨g, 3, none⟩ (.int .i64 (f 2))).setCell ⟨g, 4, none⟩ (.int .i64 (f 3))).setCell ⟨g, 5, none⟩ (.int .i64 (f 4))) g e (gC n f) :=
  (((((h.set 0 _).set 1 _).set 2 _).set 3 _).set 4 _).set 5 _
theorem set6_below {w wr : World} {g : Nat} (a b c d x y : Value) (h : Below w.heap.size w wr) (hg : w.heap.size ≤ g) :
    Below w.heap.size w ((((((wr.setCell ⟨g, 0, none⟩ a).setCell ⟨g, 1, none⟩ b).setCell ⟨g, 2, none⟩ c).setCell ⟨g, 3, none⟩ d).setCell ⟨g, 4, none⟩ x).setCell ⟨g, 5, none⟩ y) :=
  (((((h.setCell (p := ⟨g, 0, none⟩) hg a).setCell (p := ⟨g, 1, none⟩) hg b).setCell (p := ⟨g, 2, none⟩) hg c).setCell (p := ⟨g, 3, none⟩) hg d).setCell (p := ⟨g, 4, none⟩) hg x).setCell (p := ⟨g, 5, none⟩) hg y
theorem anyE_skip {P : Program} {Q : Exit → Act → World → Prop} {md : Region.Mode} {S : World → Prop} {X : Nat → Bool} {l : List Oper} (i : Nat) {oi : Oper} {fuel : Nat} {listed : Array Bool} {a : Act} {w : World} (hi : l[i]? = some oi)
    (hf : (Region.noSelect l.toArray && (Region.free md l.toArray listed i && ((Region.ready md l.toArray listed).contains i && waitFor md l.toArray X i))) = true)
    (hQ : ∀ c a w, Q (.panic c) (a.put oi.dst undef) w → Q (.panic c) a w) (hw : Region.wanted oi (yielded l.toArray a.tmps) = false) (hS : S w)
    (h : AnyE P md l.toArray Q S X fuel (listed.setIfInBounds i true) (a.put oi.dst undef) w) : AnyE P md l.toArray Q S X (fuel + 1) listed a w := by
  simp only [Bool.and_eq_true] at hf
  exact anyE_take0 (by simpa using hi) hf.1 (by simp only [Bool.and_eq_true]; exact hf.2) hQ (.inr ⟨hw, rfl⟩) hS h

abbrev Gr := Int × (Nat → Int)
def nthG (gs : List Gr) (i : Nat) : Gr := gs.getD i (0, fun _ => 0)
def gsC (gs : List Gr) : List Value := gs.flatMap fun g => gC g.1 g.2
theorem gC_len (n : Int) (f : Nat → Int) : (gC n f).length = 6 := rfl
theorem gsC_at : ∀ (gs : List Gr) (i j : Nat), i < gs.length → j < 6 → (gsC gs)[i * 6 + j]? = (gC (nthG gs i).1 (nthG gs i).2)[j]?
  | [], _, _, h, _ => by simp at h
  | g :: gs, 0, j, _, hj => by
    rw [gsC, List.flatMap_cons, List.getElem?_append_left (by rw [gC_len]; omega)]
    simp [nthG]
  | g :: gs, i + 1, j, h, hj => by
    have ih := gsC_at gs i j (by simpa using h) hj
    rw [gsC, List.flatMap_cons, List.getElem?_append_right (by rw [gC_len]; omega), gC_len]
    rw [show (i + 1) * 6 + j - 6 = i * 6 + j by omega]
    rw [gsC] at ih
    rw [ih]
    simp [nthG]
theorem info_graph : ∃ i, Tryd.prog.info? 24 = some i ∧ i.size = 6 := by
  have hs : (Tryd.prog.info? 24).map (fun i => i.size) = some 6 := by kernel_rfl
  cases h0 : Tryd.prog.info? 24 with
  | none => rw [h0] at hs; cases hs
  | some i => rw [h0] at hs; exact ⟨i, rfl, by simpa using hs⟩
theorem idx_gs {B n cap k : Nat} (hk : k < n) (W : World) : (Instr.indexAt 51 (.slice (some ⟨B, 0, none⟩) n cap) (.int .i64 k)).run Tryd.prog W = .ok (.pointer (some ⟨B, k * 6, none⟩)) W := by
  obtain ⟨i, hi, hz⟩ := info_graph
  have hE : Tryd.prog.elem 51 = 24 := by simp [Program.elem, Tryd.underlying51]
  rw [run_indexAt_slice W 51 _ n cap .i64 k (by rw [hE]; exact Tryd.underlying51), if_pos (by omega), hE]
  simp [sizeOf, typeInfo, hi, hz, Result.andThen, Addr.add]
  exact fun h => h.symm
theorem gs_cells {w : World} {B : Nat} {e : TypeId} {gs : List Gr} (h : Row w B e (gsC gs)) {i : Nat} (hi : i < gs.length) :
    w.cell? ⟨B, i * 6, none⟩ = some (.int .i64 (nthG gs i).1) ∧ w.cell? ⟨B, i * 6 + 1, none⟩ = some (.int .i64 ((nthG gs i).2 0)) ∧ w.cell? ⟨B, i * 6 + 2, none⟩ = some (.int .i64 ((nthG gs i).2 1)) ∧ w.cell? ⟨B, i * 6 + 3, none⟩ = some (.int .i64 ((nthG gs i).2 2)) ∧ w.cell? ⟨B, i * 6 + 4, none⟩ = some (.int .i64 ((nthG gs i).2 3)) ∧ w.cell? ⟨B, i * 6 + 5, none⟩ = some (.int .i64 ((nthG gs i).2 4)) :=
  ⟨h.cell (j := i * 6) ((gsC_at gs i 0 hi (by omega)).trans rfl), h.cell ((gsC_at gs i 1 hi (by omega)).trans rfl), h.cell ((gsC_at gs i 2 hi (by omega)).trans rfl), h.cell ((gsC_at gs i 3 hi (by omega)).trans rfl), h.cell ((gsC_at gs i 4 hi (by omega)).trans rfl), h.cell ((gsC_at gs i 5 hi (by omega)).trans rfl)⟩

def okG (gs : List Gr) (i : Nat) : Prop := IsG (nthG gs i).1 (nthG gs i).2 ∧ (nthG gs i).1 = (nthG gs 0).1
def PCase (gs : List Gr) (_ : World) (r : Value) : Prop := ∃ b, r = .bool b ∧ (b = true ↔ ∀ i, i < gs.length → okG gs i)
theorem caseG_no {w w' : World} {gs : List Gr} (hb : Below w.heap.size w w') {k : Nat} (hk : k < gs.length) (h : ¬ okG gs k) : Post w (PCase gs) (.returned (.bool false)) w' :=
  .mk hb ⟨false, rfl, ⟨(fun h => nomatch h), (fun h1 => absurd (h1 k hk) h)⟩⟩
set_option maxRecDepth 100000 in
set_option maxHeartbeats 4000000 in
theorem caseGraphs_calls {w : World} {B : Nat} {gs : List Gr} (R : Row w B 24 (gsC gs)) (h0 : 0 < gs.length) (hl : gs.length ≤ 100) :
    Calls Tryd.prog 7 #[.slice (some ⟨B, 0, none⟩) gs.length gs.length] w (Post w (PCase gs)) := by
  go_enter Tryd.func7, Tryd.ntmps7
  go_wp2
  go_loopw [4, 7] (fun _ i wr => ∃ k : Nat, k ≤ gs.length ∧ i = .int .i64 k ∧ Below w.heap.size w wr ∧ Hid (∀ p, p < k → okG gs p)) (fun _ i _ => gs.length - (intOf i).toNat)
  case atStart => exact ⟨0, Nat.zero_le _, rfl, .refl _ _, Lib.hid fun p hp => absurd hp (by omega)⟩
  case round =>
    obtain ⟨k, hk, rfl, hb, HG⟩ := hrel
    by_cases hlt : k < gs.length
    · have q := fun W => idx_gs (B := B) (cap := gs.length) hlt W
      have q0 : ∀ W, (Instr.indexAt 51 (.slice (some ⟨B, 0, none⟩) gs.length gs.length) (.int .i64 0)).run Tryd.prog W = .ok (.pointer (some ⟨B, 0, none⟩)) W := fun W => idx_gs (B := B) (cap := gs.length) (k := 0) h0 W
      have RB := R.ext hb
      obtain ⟨c0, c1, c2, c3, c4, c5⟩ := gs_cells RB hlt
      obtain ⟨z0, _⟩ := gs_cells RB h0
      rw [Nat.zero_mul] at z0
      obtain ⟨nn, hnn⟩ : ∃ nn, nn = (nthG gs k).1 := ⟨_, rfl⟩
      obtain ⟨ff, hff⟩ : ∃ ff, ff = (nthG gs k).2 := ⟨_, rfl⟩
      obtain ⟨n0, hn0⟩ : ∃ n0, n0 = (nthG gs 0).1 := ⟨_, rfl⟩
      rw [← hnn] at c0
      rw [← hff] at c1 c2 c3 c4 c5
      rw [← hn0] at z0
      have HO : Hid (okG gs k ↔ IsG nn ff ∧ nn = n0) := Lib.hid (by unfold okG; rw [← hnn, ← hff, ← hn0])
      have KC := Lib.hid fun W => grefCheck_calls W nn ff
      unfold gV at KC
      clear hnn hff hn0
      have RN := Row.graph wr nn ff
      have hbN := ext_alloc' hb (.cells #[.int .i64 nn, .int .i64 (ff 0), .int .i64 (ff 1), .int .i64 (ff 2), .int .i64 (ff 3), .int .i64 (ff 4)] 24)
      have zN := cell_ext z0 (ext_alloc wr (.cells #[.int .i64 nn, .int .i64 (ff 0), .int .i64 (ff 1), .int .i64 (ff 2), .int .i64 (ff 3), .int .i64 (ff 4)] 24))
      obtain ⟨W0, hW0⟩ : ∃ W0, W0 = wr.alloc (.cells #[.int .i64 nn, .int .i64 (ff 0), .int .i64 (ff 1), .int .i64 (ff 2), .int .i64 (ff 3), .int .i64 (ff 4)] 24) := ⟨_, rfl⟩
      have HW0 := Lib.hid hW0
      rw [← hW0] at RN hbN zN
      clear hW0
      go_wp2
      rw [← HW0.out]
      refine region_E (fun w9 : World => Row w9 wr.heap.size 24 (gC nn ff) ∧ w9.cell? ⟨B, 0, none⟩ = some (.int .i64 n0)) (fun i => false) (by kernel_rfl) ?_ (fun hHeld => ?_)
      · exact ⟨RN.ext (drewN_below _ _ 1), cell_ext zN (drewN_below _ _ 1)⟩
      refine anyE_take 0 (v := ?_) rfl (by kernel_rfl) (fun _ _ _ h => h) (by rfl) ?hy0 hHeld ?rest0
      case hy0 => (intro w9 hSw; (try dsimp only at hSw); obtain ⟨hS1, hS2⟩ := hSw; obtain ⟨d0, d1, d2, d3, d4, d5⟩ := hS1.six; clear hS1; go_simp; try with_reducible rfl)
      try simp only [Act.put, List.setIfInBounds_toArray, List.set_cons_zero, List.set_cons_succ]
      refine anyE_one 1 rfl (by kernel_rfl) (fun K hK => ?_)
      go_simp; go_at_call 27; refine (KC.out _).mono ?_; rintro _ w5 ⟨_, rfl, hb5, e, rfl, he⟩
      have hbb := ext_trans (drewN_below _ _ 1) hb5; have hB5 := hbN.trans (hbb.mono hbN.size); have RN := RN.ext hbb; have zN := cell_ext zN hbb; have HE := Lib.hid he; clear hb5 hbb he
      refine hK.out _ _ (fun _ => ⟨RN, zN⟩) (fun hHeld => ?_); replace hHeld := hHeld rfl
      clear hK K
      try simp only [Act.put, List.setIfInBounds_toArray, List.set_cons_zero, List.set_cons_succ]
      by_cases he0 : e = 0
      · subst he0
        have HI := HE.out.1 rfl
        refine anyE_take 2 (v := ?_) rfl (by kernel_rfl) (fun _ _ _ h => h) (by rfl) ?hy2a hHeld ?rest2a
        case hy2a => (intro w9 hSw; (try dsimp only at hSw); obtain ⟨hS1, hS2⟩ := hSw; obtain ⟨d0, d1, d2, d3, d4, d5⟩ := hS1.six; clear hS1; go_simp; try with_reducible rfl)
        try simp only [Act.put, List.setIfInBounds_toArray, List.set_cons_zero, List.set_cons_succ]
        refine anyE_take 3 (v := ?_) rfl (by kernel_rfl) (fun _ _ _ h => h) (by rfl) ?hy3a hHeld ?rest3a
        case hy3a => (intro w9 hSw; (try dsimp only at hSw); obtain ⟨hS1, hS2⟩ := hSw; obtain ⟨d0, d1, d2, d3, d4, d5⟩ := hS1.six; clear hS1; go_simp; try with_reducible rfl)
        try simp only [Act.put, List.setIfInBounds_toArray, List.set_cons_zero, List.set_cons_succ]
        refine anyE_take 4 (v := ?_) rfl (by kernel_rfl) (fun _ _ _ h => h) (by rfl) ?hy4a hHeld ?rest4a
        case hy4a => (intro w9 hSw; (try dsimp only at hSw); obtain ⟨hS1, hS2⟩ := hSw; obtain ⟨d0, d1, d2, d3, d4, d5⟩ := hS1.six; clear hS1; go_simp; try with_reducible rfl)
        try simp only [Act.put, List.setIfInBounds_toArray, List.set_cons_zero, List.set_cons_succ]
        refine anyE_take 5 (v := ?_) rfl (by kernel_rfl) (fun _ _ _ h => h) (by rfl) ?hy5a hHeld ?rest5a
        case hy5a => (intro w9 hSw; (try dsimp only at hSw); obtain ⟨hS1, hS2⟩ := hSw; obtain ⟨d0, d1, d2, d3, d4, d5⟩ := hS1.six; clear hS1; go_simp; try with_reducible rfl)
        try simp only [Act.put, List.setIfInBounds_toArray, List.set_cons_zero, List.set_cons_succ]
        refine anyE_take 6 (v := ?_) rfl (by kernel_rfl) (fun _ _ _ h => h) (by rfl) ?hy6a hHeld ?rest6a
        case hy6a => (intro w9 hSw; (try dsimp only at hSw); obtain ⟨hS1, hS2⟩ := hSw; obtain ⟨d0, d1, d2, d3, d4, d5⟩ := hS1.six; clear hS1; go_simp; try with_reducible rfl)
        try simp only [Act.put, List.setIfInBounds_toArray, List.set_cons_zero, List.set_cons_succ]
        refine anyE_take 7 (v := ?_) rfl (by kernel_rfl) (fun _ _ _ h => h) (by rfl) ?hy7a hHeld ?rest7a
        case hy7a => (intro w9 hSw; (try dsimp only at hSw); obtain ⟨hS1, hS2⟩ := hSw; obtain ⟨d0, d1, d2, d3, d4, d5⟩ := hS1.six; clear hS1; go_simp; try with_reducible rfl)
        try simp only [Act.put, List.setIfInBounds_toArray, List.set_cons_zero, List.set_cons_succ]
        refine anyE_take 8 (v := ?_) rfl (by kernel_rfl) (fun _ _ _ h => h) (by rfl) ?hy8a hHeld ?rest8a
        case hy8a => (intro w9 hSw; (try dsimp only at hSw); obtain ⟨hS1, hS2⟩ := hSw; obtain ⟨d0, d1, d2, d3, d4, d5⟩ := hS1.six; clear hS1; go_simp; try with_reducible rfl)
        try simp only [Act.put, List.setIfInBounds_toArray, List.set_cons_zero, List.set_cons_succ]
        refine anyE_take 9 (v := ?_) rfl (by kernel_rfl) (fun _ _ _ h => h) (by rfl) ?hy9a hHeld ?rest9a
        case hy9a => (intro w9 hSw; (try dsimp only at hSw); obtain ⟨hS1, hS2⟩ := hSw; obtain ⟨d0, d1, d2, d3, d4, d5⟩ := hS1.six; clear hS1; go_simp; try with_reducible rfl)
        try simp only [Act.put, List.setIfInBounds_toArray, List.set_cons_zero, List.set_cons_succ]
        by_cases hnn : nn = n0
        · subst hnn
          refine anyE_take 10 (v := ?_) rfl (by kernel_rfl) (fun _ _ _ h => h) (by rfl) ?hy10b hHeld ?rest10b
          case hy10b => (intro w9 hSw; (try dsimp only at hSw); obtain ⟨hS1, hS2⟩ := hSw; obtain ⟨d0, d1, d2, d3, d4, d5⟩ := hS1.six; clear hS1; go_simp; try with_reducible rfl)
          try simp only [Act.put, List.setIfInBounds_toArray, List.set_cons_zero, List.set_cons_succ]
          refine anyE_take 11 (v := ?_) rfl (by kernel_rfl) (fun _ _ _ h => h) (by rfl) ?hy11b hHeld ?rest11b
          case hy11b => (intro w9 hSw; (try dsimp only at hSw); obtain ⟨hS1, hS2⟩ := hSw; obtain ⟨d0, d1, d2, d3, d4, d5⟩ := hS1.six; clear hS1; go_simp; try with_reducible rfl)
          try simp only [Act.put, List.setIfInBounds_toArray, List.set_cons_zero, List.set_cons_succ]
          refine anyE_done (by kernel_rfl) ?_ _
          have HG2 : Hid (∀ p, p < k + 1 → okG gs p) := Lib.hid fun p hp => by
            by_cases e : p = k
            · subst e; exact HO.out.2 ⟨HI, rfl⟩
            · exact HG.out p (by omega)
          go_wp2
          go_roundw
          case rel => exact ⟨k + 1, by omega, by go_num, hB5, HG2⟩
          case measure => simp [intOf]; omega
        · have dnn : (nn != n0) = true := by simp [hnn]
          have NO : Hid (¬ okG gs k) := Lib.hid fun h => hnn (HO.out.1 h).2
          clear hnn
          refine anyE_take 10 (v := ?_) rfl (by kernel_rfl) (fun _ _ _ h => h) (by rfl) ?hy10c hHeld ?rest10c
          case hy10c => (intro w9 hSw; (try dsimp only at hSw); obtain ⟨hS1, hS2⟩ := hSw; obtain ⟨d0, d1, d2, d3, d4, d5⟩ := hS1.six; clear hS1; go_simp; try with_reducible rfl)
          try simp only [Act.put, List.setIfInBounds_toArray, List.set_cons_zero, List.set_cons_succ]
          refine anyE_take 11 (v := ?_) rfl (by kernel_rfl) (fun _ _ _ h => h) (by rfl) ?hy11c hHeld ?rest11c
          case hy11c => (intro w9 hSw; (try dsimp only at hSw); obtain ⟨hS1, hS2⟩ := hSw; obtain ⟨d0, d1, d2, d3, d4, d5⟩ := hS1.six; clear hS1; go_simp; try with_reducible rfl)
          try simp only [Act.put, List.setIfInBounds_toArray, List.set_cons_zero, List.set_cons_succ]
          refine anyE_done (by kernel_rfl) ?_ _
          go_wp2
          go_ret
          exact caseG_no hB5 hlt NO.out
      · have de : (e != 0) = true := by simp [he0]
        have NO : Hid (¬ okG gs k) := Lib.hid fun h => he0 (HE.out.2 (HO.out.1 h).1)
        clear he0
        refine anyE_take 2 (v := ?_) rfl (by kernel_rfl) (fun _ _ _ h => h) (by rfl) ?hy2d hHeld ?rest2d
        case hy2d => (intro w9 hSw; (try dsimp only at hSw); obtain ⟨hS1, hS2⟩ := hSw; obtain ⟨d0, d1, d2, d3, d4, d5⟩ := hS1.six; clear hS1; go_simp; try with_reducible rfl)
        try simp only [Act.put, List.setIfInBounds_toArray, List.set_cons_zero, List.set_cons_succ]
        refine anyE_take 3 (v := ?_) rfl (by kernel_rfl) (fun _ _ _ h => h) (by rfl) ?hy3d hHeld ?rest3d
        case hy3d => (intro w9 hSw; (try dsimp only at hSw); obtain ⟨hS1, hS2⟩ := hSw; obtain ⟨d0, d1, d2, d3, d4, d5⟩ := hS1.six; clear hS1; go_simp; try with_reducible rfl)
        try simp only [Act.put, List.setIfInBounds_toArray, List.set_cons_zero, List.set_cons_succ]
        refine anyE_skip 4 rfl (by kernel_rfl) (fun _ _ _ h => h) (by rfl) hHeld ?_
        try simp only [Act.put, List.setIfInBounds_toArray, List.set_cons_zero, List.set_cons_succ]
        refine anyE_skip 5 rfl (by kernel_rfl) (fun _ _ _ h => h) (by rfl) hHeld ?_
        try simp only [Act.put, List.setIfInBounds_toArray, List.set_cons_zero, List.set_cons_succ]
        refine anyE_skip 6 rfl (by kernel_rfl) (fun _ _ _ h => h) (by rfl) hHeld ?_
        try simp only [Act.put, List.setIfInBounds_toArray, List.set_cons_zero, List.set_cons_succ]
        refine anyE_skip 7 rfl (by kernel_rfl) (fun _ _ _ h => h) (by rfl) hHeld ?_
        try simp only [Act.put, List.setIfInBounds_toArray, List.set_cons_zero, List.set_cons_succ]
        refine anyE_skip 8 rfl (by kernel_rfl) (fun _ _ _ h => h) (by rfl) hHeld ?_
        try simp only [Act.put, List.setIfInBounds_toArray, List.set_cons_zero, List.set_cons_succ]
        refine anyE_skip 9 rfl (by kernel_rfl) (fun _ _ _ h => h) (by rfl) hHeld ?_
        try simp only [Act.put, List.setIfInBounds_toArray, List.set_cons_zero, List.set_cons_succ]
        refine anyE_skip 10 rfl (by kernel_rfl) (fun _ _ _ h => h) (by rfl) hHeld ?_
        try simp only [Act.put, List.setIfInBounds_toArray, List.set_cons_zero, List.set_cons_succ]
        refine anyE_take 11 (v := ?_) rfl (by kernel_rfl) (fun _ _ _ h => h) (by rfl) ?hy11d hHeld ?rest11d
        case hy11d => (intro w9 hSw; (try dsimp only at hSw); obtain ⟨hS1, hS2⟩ := hSw; obtain ⟨d0, d1, d2, d3, d4, d5⟩ := hS1.six; clear hS1; go_simp; try with_reducible rfl)
        try simp only [Act.put, List.setIfInBounds_toArray, List.set_cons_zero, List.set_cons_succ]
        refine anyE_done (by kernel_rfl) ?_ _
        go_wp2
        go_ret
        exact caseG_no hB5 hlt NO.out
    · obtain rfl : k = gs.length := by omega
      go_wp2
      go_ret
      exact .mk hb ⟨true, rfl, fun _ => HG.out, fun _ => rfl⟩
end Go.Proofs.YtmlgbaogkbfklaaDoor
