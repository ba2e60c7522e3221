/- The program's copied, with the closure of Free: the list that it collects. -/
import Derived.Test.YtifkkajgcekafaaDoorExArgs
import Derived.Test.YtifkkajgcekafaaDoorExNeg
import Derived.Deep.DeepCutAuto
namespace Go.Proofs.YtifkkajgcekafaaDoor
set_option linter.unusedVariables false
open Go.RowKit
attribute [local go_sem ↓] Go.wp_at_zero Go.wp_at_succ

theorem types_lt : (24 : TypeId) ≠ 3 ∧ (25 : TypeId) ≠ 3 ∧ (25 : TypeId) ≠ 24 ∧ (3 : TypeId) ≠ 24 := by decide
theorem owns_block {w : World} {base : Nat} {e : TypeId} {size : Nat} {v : Value} {n : Nat} {xs : List Value} (h : w.ownsRow base e size v n xs) (k : Nat) (hk : v.ownBlock = some k) : ∃ cs, w.heap[k]? = some (.cells cs e (0, 0)) := by
  rcases h.2 with ⟨rfl, _⟩ | ⟨g, cap, cur, rfl, hb, hg, _⟩
  · simp [Value.ownBlock] at hk
  · simp only [Value.ownBlock, Option.some.injEq] at hk
    subst hk
    exact ⟨_, hg⟩
theorem owns_ne {w : World} {b1 b2 : Nat} {e1 e2 : TypeId} {s1 s2 : Nat} {v1 v2 : Value} {n1 n2 : Nat} {xs1 xs2 : List Value} (h1 : w.ownsRow b1 e1 s1 v1 n1 xs1) (h2 : w.ownsRow b2 e2 s2 v2 n2 xs2) (hne : e1 ≠ e2) (k : Nat) (hk : v1.ownBlock = some k) : v2.ownBlock ≠ some k := by
  intro hk2
  obtain ⟨c1, g1⟩ := owns_block h1 k hk
  obtain ⟨c2, g2⟩ := owns_block h2 k hk2
  rw [g1] at g2
  injection g2 with g2
  injection g2 with _ g3
  exact hne g3
theorem row_ne {w : World} {g b : Nat} {e e2 : TypeId} {s : Nat} {v : Value} {n : Nat} {xs ys : List Value} (h : Row w g e xs) (h2 : w.ownsRow b e2 s v n ys) (hne : e ≠ e2) : v.ownBlock ≠ some g := by
  intro hk2
  obtain ⟨c2, g2⟩ := owns_block h2 g hk2
  unfold Row at h
  rw [h] at g2
  injection g2 with g2
  injection g2 with _ g3
  exact hne g3
theorem row_ne2 {w : World} {g g2 : Nat} {e e2 : TypeId} {xs ys : List Value} (h : Row w g e xs) (h2 : Row w g2 e2 ys) (hne : e ≠ e2) : g ≠ g2 := by
  rintro rfl
  unfold Row at h h2
  rw [h] at h2
  injection h2 with g2
  injection g2 with _ g3
  exact hne g3

/-- From W to W' only the block Bo and the row of u have turned; the row of u' is that of u, or new. -/
def Grown (Bo : Nat) (u u' : Value) (W W' : World) : Prop := Agree (fun b => b ≠ Bo ∧ u.ownBlock ≠ some b) W W' ∧ (∀ k, u'.ownBlock = some k → u.ownBlock = some k ∨ W.heap.size ≤ k) ∧ Below 0 W W'
theorem Grown.size {Bo : Nat} {u u' : Value} {W W' : World} (h : Grown Bo u u' W W') : W.heap.size ≤ W'.heap.size := h.1.size
theorem Grown.below {Bo : Nat} {u : Value} {W W' : World} (h : Below W.heap.size W W') : Grown Bo u u W W' := ⟨.of_ext h, fun k hk => .inl hk, h.mono (Nat.zero_le _)⟩
theorem Grown.trans {Bo : Nat} {u u1 u2 : Value} {W W1 W2 : World} (h : Grown Bo u u1 W W1) (k : Grown Bo u1 u2 W1 W2) : Grown Bo u u2 W W2 := by
  have hs := h.size
  refine ⟨⟨Nat.le_trans h.size k.size, fun b hb hl => ?_⟩, fun j hj => ?_, h.2.2.trans k.2.2⟩
  · refine (k.1.block b ⟨hb.1, fun e => ?_⟩ (by omega)).trans (h.1.block b hb hl)
    rcases h.2.1 b e with e1 | e1
    · exact hb.2 e1
    · omega
  · rcases k.2.1 j hj with e | e
    · exact h.2.1 j e
    · exact .inr (by omega)
theorem Grown.row {Bo g : Nat} {u u' : Value} {W W' : World} {e : TypeId} {xs : List Value} (h : Grown Bo u u' W W') (hr : Row W g e xs) (hg : g ≠ Bo) (hu : u.ownBlock ≠ some g) : Row W' g e xs := hr.agree h.1 ⟨hg, hu⟩
theorem Grown.expr {Bo : Nat} {S : Nat → Prop} {u u' : Value} {W W' : World} {e : Ex} {v : Value} (h : Grown Bo u u' W W') (hx : ExprV S W e v) (hS : ∀ b, S b → b ≠ Bo ∧ u.ownBlock ≠ some b) : ExprV S W' e v := hx.agree (h.1.mono hS)

/-- What the copying call leaves. -/
def FPost (Bo base : Nat) (u : Value) (l' : List Int) (W : World) (e : Ending) (W' : World) : Prop :=
  ∃ (o n : Int) (a : Option Addr) (m c : Nat) (u' : Value), e = .returned (.agg #[.int .i64 o, .int .i64 n, .slice a m c]) ∧ Grown Bo u u' W W' ∧ Row W' Bo 25 [u'] ∧ W'.ownsRow base 3 1 u' (l').length ((l').map (Value.int .i64))
theorem set3_agree {R : Nat} {w : World} (u0 u1 u2 : Value) : Agree (fun b => b ≠ R) w (((w.setCell ⟨R, 0, none⟩ u0).setCell ⟨R, 1, none⟩ u1).setCell ⟨R, 2, none⟩ u2) := by
  have hne : ∀ b, b ≠ R → some R ≠ some b := fun b hb e => hb (by cases e; rfl)
  exact ((Agree.of_grown (grownBy_setCell w R 0 u0) hne).trans (.of_grown (grownBy_setCell _ R 1 u1) hne)).trans (.of_grown (grownBy_setCell _ R 2 u2) hne)
theorem FPost.fin {Bo base R : Nat} {u u' : Value} {l : List Int} {W w : World} {u0 u1 u2 : Value} {e : Ending} (h : Grown Bo u u' W w) (hB : Row w Bo 25 [u']) (hO : w.ownsRow base 3 1 u' l.length (l.map (Value.int .i64))) (hR : W.heap.size ≤ R) (hRb : Bo ≠ R) (hRw : R < w.heap.size)
    (o n : Int) (a : Option Addr) (m c : Nat) (he : e = .returned (.agg #[.int .i64 o, .int .i64 n, .slice a m c])) (hRo : u'.ownBlock ≠ some R) : FPost Bo base u l W e (((w.setCell ⟨R, 0, none⟩ u0).setCell ⟨R, 1, none⟩ u1).setCell ⟨R, 2, none⟩ u2) := by
  have hs := h.size
  have ha := set3_agree (R := R) (w := w) u0 u1 u2
  refine ⟨o, n, a, m, c, u', he, ⟨⟨Nat.le_trans hs ha.size, fun b hb hl => (ha.block b (by omega) (by omega)).trans (h.1.block b hb hl)⟩, h.2.1, set3_below _ _ _ h.2.2 (Nat.zero_le _)⟩, hB.agree ha hRb, owns_agree hO ha fun k hk e => hRo (by rw [hk, e])⟩
def CopyF (vars : Int) (e : Ex) : Prop := ∀ (S : Nat → Prop) (W : World) (Bv Bo base : Nat) (v u : Value) (l : List Int), Row W Bv 3 [.int .i64 vars] → Row W Bo 25 [u] → W.ownsRow base 3 1 u (l).length ((l).map (Value.int .i64)) → Bo < base → base ≤ W.heap.size → Bv ≠ Bo → Bv < base → (∀ b, S b → b < base ∧ b ≠ Bo) → ExprV S W e v → l.length + sizeE e ≤ 100000 →
  Calls Tryd.prog 58 #[v, .func (.func 65) #[] #[.pointer (some ⟨Bv, 0, none⟩), .pointer (some ⟨Bo, 0, none⟩)]] W (FPost Bo base u (l ++ varsE vars e) W)

set_option maxRecDepth 100000 in
set_option maxHeartbeats 8000000 in
theorem free1_calls (W : World) (Bv Bo base : Nat) (vars o n : Int) (a : Option Addr) (c m : Nat) (u : Value) (l : List Int) (hV : Row W Bv 3 [.int .i64 vars]) (hB : Row W Bo 25 [u]) (hO : W.ownsRow base 3 1 u (l).length ((l).map (Value.int .i64))) (hBb : Bo < base) (hbs : base ≤ W.heap.size) (hl : l.length ≤ 100000) :
    Calls Tryd.prog 65 #[.agg #[.int .i64 o, .int .i64 n, .slice a m c], .pointer (some ⟨Bv, 0, none⟩), .pointer (some ⟨Bo, 0, none⟩)] W (FPost Bo base u (l ++ if o = 1 ∧ n < vars then [n] else []) W) := by
  obtain ⟨w0, hw0⟩ : ∃ w0, w0 = (W.alloc (.cells #[.int .i64 o, .int .i64 n, .slice a m c] 24)).alloc (.cells #[.int .i64 0, .int .i64 0, .slice none 0 0] 24) := ⟨_, rfl⟩
  have e0 : Below W.heap.size W w0 := by rw [hw0]; exact ext_alloc' (ext_alloc W _) _
  have rE : Row w0 W.heap.size 24 [.int .i64 o, .int .i64 n, .slice a m c] := by rw [hw0]; exact (row_new W [.int .i64 o, .int .i64 n, .slice a m c] 24).alloc _
  have rR : Row w0 (W.heap.size + 1) 24 [.int .i64 0, .int .i64 0, .slice none 0 0] := by
    have r2 := row_new (W.alloc (.cells #[.int .i64 o, .int .i64 n, .slice a m c] 24)) [.int .i64 0, .int .i64 0, .slice none 0 0] 24
    rw [World.size_alloc] at r2
    rw [hw0]
    exact r2
  have hV := hV.ext e0
  have hB := hB.ext e0
  have hO := owns_ext hO e0
  have hbl := hB.lt
  have hs0 := e0.size
  obtain ⟨x0, x1, x2⟩ := rE.three
  have y0 := hV.cell (j := 0) rfl
  have z0 := hB.cell (j := 0) rfl
  have zf := hB.free 0
  have lE := rE.lt
  have lR := rR.lt
  have n1 : W.heap.size ≠ Bo := by omega
  have n2 : W.heap.size + 1 ≠ Bo := by omega
  by_cases hop : o = 1
  · have d1 : (o == 1) = true := beq_iff_eq.2 hop
    by_cases hn : n < vars
    · have d2 : decide (n < vars) = true := decide_eq_true hn
      have HI := Lib.hid (show (if o = 1 ∧ n < vars then [n] else []) = [n] from if_pos ⟨hop, hn⟩)
      rw [HI.out]
      clear hop hn
      go_enter Tryd.func65, Tryd.ntmps65
      go_upto_region 1 with fail
      rw [← hw0]
      clear hw0
      go_wp2_with (at_builtin; refine wpList_push rfl (.tmp 14) (.tmp 17) 25 rfl 3 _ 8 Tryd.underlying25 info_int rfl base u l.length _ rfl hO (.int .i64 n) rfl rfl (by omega) (by omega) (by omega) ?_; intro g3 c3 w3 hown3 hb3 hag3 hg3; have hB3 : Row w3 Bo 25 [u] := hB.agree (hag3 (fun b => b = Bo) (fun k hk e => by have := (hO.lt k hk).1; omega)) rfl; have hE3 := rE.agree (hag3 (fun b => b = W.heap.size) (fun k hk e => row_ne rE hO types_lt.1 (hk.trans (congrArg some e)))) rfl; have hR3 := rR.agree (hag3 (fun b => b = W.heap.size + 1) (fun k hk e => row_ne rR hO types_lt.1 (hk.trans (congrArg some e)))) rfl; have zf3 := hB3.free 0; have z3 := hB3.cell (j := 0) rfl; have l3 := hB3.lt; obtain ⟨e0', e1', e2'⟩ := hE3.three; obtain ⟨r0, r1, r2⟩ := hR3.three; have q0 := hR3.free 0; have q1 := hR3.free 1; have q2 := hR3.free 2; have l4 := hR3.lt; have l5 := hE3.lt)
      refine bodyPost_ret (v := .agg #[.int .i64 o, .int .i64 n, .slice a m c]) (by simp [results, Tryd.results65, go_sem, r0, r1, r2]) rfl ?_
      have HRL : W.heap.size + 1 < (w3.setCell ⟨Bo, 0, none⟩ (.slice (some ⟨g3, 0, none⟩) (l ++ [n]).length c3)).heap.size := by rw [World.size_setCell]; exact l4
      have HRN : (Value.slice (some ⟨g3, 0, none⟩) (l ++ [n]).length c3).ownBlock ≠ some (W.heap.size + 1) := by rw [show (l ++ [n]).length = l.length + 1 by simp]; exact row_ne hR3 hown3 types_lt.1
      have hg : base ≤ g3 := (hown3.lt g3 rfl).1
      have hsm : l.map (Value.int .i64) ++ [.int .i64 n] = (l ++ [n]).map (Value.int .i64) := by simp
      have hsl : l.length + 1 = (l ++ [n]).length := by simp
      rw [hsm, hsl] at hown3
      rw [hsl]
      have G3 : Grown Bo u (.slice (some ⟨g3, 0, none⟩) (l ++ [n]).length c3) W (w3.setCell ⟨Bo, 0, none⟩ (.slice (some ⟨g3, 0, none⟩) (l ++ [n]).length c3)) := by
        refine (Grown.below e0 (Bo := Bo) (u := u)).trans ⟨(hag3 _ (fun k hk h => h.2 hk)).trans (.of_grown (grownBy_setCell w3 Bo 0 _) fun b hb e => hb.1 (by cases e; rfl)), fun k hk => ?_, (hb3.mono (Nat.zero_le _)).setCell (Nat.zero_le _) _⟩
        obtain rfl : g3 = k := by simpa [Value.ownBlock] using hk
        exact hg3
      have B4 := hB3.set 0 (.slice (some ⟨g3, 0, none⟩) (l ++ [n]).length c3)
      have O4 : (w3.setCell ⟨Bo, 0, none⟩ (.slice (some ⟨g3, 0, none⟩) (l ++ [n]).length c3)).ownsRow base 3 1 (.slice (some ⟨g3, 0, none⟩) (l ++ [n]).length c3) (l ++ [n]).length ((l ++ [n]).map (Value.int .i64)) :=
        owns_agree (S := fun b => b = g3) hown3 (.of_grown (grownBy_setCell w3 Bo 0 _) fun b hb e => by cases e; omega) (fun k hk => by simpa [Value.ownBlock] using hk.symm)
      exact FPost.fin G3 B4 O4 (by omega) (by omega) HRL _ _ _ _ _ rfl HRN
    · have d2 : decide (n < vars) = false := decide_eq_false hn
      have HI := Lib.hid (show (if o = 1 ∧ n < vars then [n] else []) = [] from if_neg (fun h => hn h.2))
      rw [HI.out, List.append_nil]
      clear hop hn
      go_enter Tryd.func65, Tryd.ntmps65
      go_upto_region 1 with fail
      rw [← hw0]
      clear hw0
      obtain ⟨r0, r1, r2⟩ := rR.three
      have q0 := rR.free 0
      have q1 := rR.free 1
      have q2 := rR.free 2
      go_wp2
      refine bodyPost_ret (v := .agg #[.int .i64 o, .int .i64 n, .slice a m c]) (by simp [results, Tryd.results65, go_sem, r0, r1, r2]) rfl ?_
      have HRL := lR
      have HRN := row_ne rR hO types_lt.1
      exact FPost.fin (Grown.below e0) hB hO (by omega) (by omega) HRL _ _ _ _ _ rfl HRN
  · have d1 : (o == 1) = false := beq_eq_false_iff_ne.2 hop
    have HI := Lib.hid (show (if o = 1 ∧ n < vars then [n] else []) = [] from if_neg (fun h => hop h.1))
    rw [HI.out, List.append_nil]
    clear hop
    go_enter Tryd.func65, Tryd.ntmps65
    go_upto_region 1 with fail
    rw [← hw0]
    clear hw0
    obtain ⟨r0, r1, r2⟩ := rR.three
    have q0 := rR.free 0
    have q1 := rR.free 1
    have q2 := rR.free 2
    go_wp2
    refine bodyPost_ret (v := .agg #[.int .i64 o, .int .i64 n, .slice a m c]) (by simp [results, Tryd.results65, go_sem, r0, r1, r2]) rfl ?_
    have HRL := lR
    have HRN := row_ne rR hO types_lt.1
    exact FPost.fin (Grown.below e0) hB hO (by omega) (by omega) HRL _ _ _ _ _ rfl HRN

theorem varsL_len (vars : Int) (l : List Ex) : (varsL vars l).length ≤ sizeL l := by
  rw [varsL_flat]
  have key : ∀ e : Ex, (varsE vars e).length ≤ sizeE e := by
    intro e
    induction e using Ex.ind with
    | h op num xs ih =>
      rw [varsE, varsL_flat, sizeE, List.length_append]
      have h1 : (xs.flatMap (varsE vars)).length ≤ sizeL xs := by
        clear op num
        induction xs with
        | nil => simp [sizeL]
        | cons x xs ih2 =>
          rw [List.flatMap_cons, List.length_append, sizeL]
          have := ih x (by simp)
          have := ih2 (fun y hy => ih y (by simp [hy]))
          omega
      have h2 : (if op = 1 ∧ num < vars then [num] else []).length ≤ 1 := by split <;> simp
      omega
  induction l with
  | nil => simp [sizeL]
  | cons x xs ih2 =>
    rw [List.flatMap_cons, List.length_append, sizeL]
    have := key x
    omega
theorem ExprV.elsS {S : Nat → Prop} {W : World} {op num : Int} {xs : List Ex} {v : Value} (h : ExprV S W (.node op num xs) v) :
    ∃ a cap, v = .agg #[.int .i64 op, .int .i64 num, .slice a xs.length cap] ∧ xs.length ≤ cap ∧ cap ≤ maxLen ∧ Ad S W a xs.length cap ∧ WF op ∧ WF num ∧ ∀ k, k < xs.length → ∃ b off a' c', S b ∧ El S W a xs.length cap k (nthE xs k) b off a' c' := by
  cases h with
  | mk wo wn ha hl hm hc hx =>
    rename_i a cap us
    refine ⟨a, cap, rfl, hl, hm, ha, wo, wn, fun k hk => ?_⟩
    obtain ⟨i0, hi, hz⟩ := info_e
    have hix := idx_three Tryd.underlying22 hi hz ha k hk
    obtain ⟨a', cap', e, c0, c1, c2⟩ := elem_parts ha hc hx hk (.refl _ _)
    rcases ha with ⟨h0, _⟩ | ⟨b, off, rfl, _, hs⟩
    · omega
    · exact ⟨b, off + k * 3, a', cap', hs, hix, c0, c1, c2, e ▸ hx k hk⟩

/-- What a round of 'e.Args = append(e.Args, copied(a))' leaves, where the call collects. -/
theorem round_free {W wr w1 w5 w6 : World} {base Bo : Nat} {u0 u u5 v' c0 c1 : Value} {xs zs : List Value} {n m m5 : Nat} {ys ys5 : List Value} {x0 x1 x2 : Value} {g6 cp6 : Nat}
    (hBo : Bo < W.heap.size) (hG : Grown Bo u0 u W wr) (hb1 : Below wr.heap.size wr w1) (hG5 : Grown Bo u u5 w1 w5) (hR : Row wr W.heap.size 24 [c0, c1, v']) (hR1 : Row wr (W.heap.size + 1) 24 zs)
    (hO : wr.ownsRow (W.heap.size + 2) 24 3 v' n xs) (hU : wr.ownsRow base 3 1 u m ys) (hC5 : Row w5 Bo 25 [u5]) (hU5 : w5.ownsRow base 3 1 u5 m5 ys5)
    (hown6 : w6.ownsRow (W.heap.size + 2) 24 3 (.slice (some ⟨g6, 0, none⟩) (n + 1) cp6) (n + 1) (xs ++ [x0, x1, x2])) (hgrow6 : (w5.alloc (.cells #[x0, x1, x2] 24)).grownBy w6 v'.ownBlock) :
    Grown Bo u0 u5 W (w6.setCell ⟨W.heap.size, 2, none⟩ (.slice (some ⟨g6, 0, none⟩) (n + 1) cp6)) ∧ Row (w6.setCell ⟨W.heap.size, 2, none⟩ (.slice (some ⟨g6, 0, none⟩) (n + 1) cp6)) W.heap.size 24 [c0, c1, (.slice (some ⟨g6, 0, none⟩) (n + 1) cp6)] ∧ Row (w6.setCell ⟨W.heap.size, 2, none⟩ (.slice (some ⟨g6, 0, none⟩) (n + 1) cp6)) (W.heap.size + 1) 24 zs ∧
      (w6.setCell ⟨W.heap.size, 2, none⟩ (.slice (some ⟨g6, 0, none⟩) (n + 1) cp6)).ownsRow (W.heap.size + 2) 24 3 (.slice (some ⟨g6, 0, none⟩) (n + 1) cp6) (n + 1) (xs ++ [x0, x1, x2]) ∧ Row (w6.setCell ⟨W.heap.size, 2, none⟩ (.slice (some ⟨g6, 0, none⟩) (n + 1) cp6)) Bo 25 [u5] ∧ (w6.setCell ⟨W.heap.size, 2, none⟩ (.slice (some ⟨g6, 0, none⟩) (n + 1) cp6)).ownsRow base 3 1 u5 m5 ys5 := by
  have hs := hG.size
  have hs1 := hb1.size
  have hs5 := hG5.size
  have l0 := hR.lt
  have l1 := hR1.lt
  have R5 := hG5.row (hR.ext hb1) (by omega) (row_ne hR hU types_lt.1)
  have R15 := hG5.row (hR1.ext hb1) (by omega) (row_ne hR1 hU types_lt.1)
  have O5 := owns_agree (S := fun b => v'.ownBlock = some b) (owns_ext hO hb1) (hG5.1.mono fun b hb => ⟨fun e => by have := (hO.lt b hb).1; omega, fun e => owns_ne hO hU types_lt.1 b hb e⟩) (fun k hk => hk)
  have vlt := hO.lt
  have ha : ∀ S : Nat → Prop, (∀ b, S b → v'.ownBlock ≠ some b) → Agree S w5 w6 := fun S hS => (Agree.of_ext (ext_alloc w5 (.cells #[x0, x1, x2] 24))).trans (.of_grown hgrow6 hS)
  have hg6 : W.heap.size + 2 ≤ g6 := (hown6.lt g6 rfl).1
  have hst : ∀ S : Nat → Prop, (∀ b, S b → b ≠ W.heap.size) → Agree S w6 (w6.setCell ⟨W.heap.size, 2, none⟩ (.slice (some ⟨g6, 0, none⟩) (n + 1) cp6)) := fun S hS => .of_grown (grownBy_setCell w6 W.heap.size 2 _) fun b hb e => hS b hb (by cases e; rfl)
  have R6 := R5.agree (ha (fun b => b = W.heap.size) (fun b hb e => by have := (vlt b e).1; omega)) rfl
  have R16 := R15.agree (ha (fun b => b = W.heap.size + 1) (fun b hb e => by have := (vlt b e).1; omega)) rfl
  have C6 := hC5.agree (ha (fun b => b = Bo) (fun b hb e => by have := (vlt b e).1; omega)) rfl
  have U6 := owns_agree (S := fun b => u5.ownBlock = some b) hU5 (ha _ (fun b hb e => owns_ne O5 hU5 types_lt.1 b e hb)) (fun k hk => hk)
  refine ⟨?_, R6.set 2 _, R16.agree (hst (fun b => b = W.heap.size + 1) (fun b hb => by omega)) rfl, owns_agree (S := fun b => b = g6) hown6 (hst _ (fun b hb => by omega)) (fun k hk => by simpa [Value.ownBlock] using hk.symm), C6.agree (hst (fun b => b = Bo) (fun b hb => by omega)) rfl, owns_agree (S := fun b => u5.ownBlock = some b) U6 (hst _ (fun b hb e => row_ne R6 U6 types_lt.1 (by rw [hb, e]))) (fun k hk => hk)⟩
  have G5 : Grown Bo u0 u5 W w5 := (hG.trans (.below hb1)).trans hG5
  have s6 := (ha (fun _ => False) (fun b hb => hb.elim)).size
  refine ⟨⟨?_, fun b hb hl => ?_⟩, G5.2.1, ((G5.2.2.alloc (Nat.zero_le _) _).grown hgrow6 (Nat.zero_le _) (fun k hk => Nat.zero_le _)).setCell (Nat.zero_le _) _⟩
  · rw [World.size_setCell]; have := G5.size; omega
  · have h1 := (hst (fun b => b ≠ W.heap.size) (fun b hb => hb)).block b (by omega) (by omega)
    have h2 := (ha (fun b => v'.ownBlock ≠ some b) (fun b hb => hb)).block b (fun e => by have := (vlt b e).1; omega) (by omega)
    exact h1.trans (h2.trans (G5.1.block b hb hl))

set_option maxRecDepth 100000 in
set_option maxHeartbeats 8000000 in
theorem copyF_node (vars op num : Int) (xs : List Ex) (hlen : sizeL xs ≤ 1000) (ih : ∀ x ∈ xs, CopyF vars x) : CopyF vars (.node op num xs) := by
  intro S W Bv Bo base v u0 l hV hC hU hBb hbs hvo hvb hS hv hsz
  obtain ⟨a, cap, rfl, hl, hm, had, wo, wn, hel⟩ := hv.elsS
  unfold maxLen at hm
  obtain ⟨i0, hi, hz0, hz1, hz2⟩ := info_parts info_expr3
  have hel0 := Lib.hid hel
  have hlx := length_le_size xs
  have hbo := hC.lt
  rw [sizeE] at hsz
  clear hel
  go_enter Tryd.func58, Tryd.ntmps58
  go_wp2
  go_loopw [13] (fun i wr => ∃ k : Nat, k ≤ xs.length ∧ i = .int .i64 k ∧ ∃ (v' u : Value) (ys : List Value), Row wr W.heap.size 24 [.int .i64 op, .int .i64 num, v'] ∧ Row wr (W.heap.size + 1) 24 [.int .i64 0, .int .i64 0, .slice none 0 0] ∧
      wr.ownsRow (W.heap.size + 2) 24 3 v' k ys ∧ Grown Bo u0 u W wr ∧ Row wr Bo 25 [u] ∧ wr.ownsRow base 3 1 u (l ++ varsL vars (xs.take k)).length ((l ++ varsL vars (xs.take k)).map (Value.int .i64))) (fun i _ => xs.length - (intOf i).toNat)
  case atStart =>
    have e2 := ext_alloc' (ext_alloc W (.cells #[.int .i64 op, .int .i64 num, .slice none 0 0] 24)) (.cells #[.int .i64 0, .int .i64 0, .slice none 0 0] 24)
    refine ⟨0, by omega, rfl, .slice none 0 0, u0, [], (row_new W [.int .i64 op, .int .i64 num, .slice none 0 0] _).alloc _, ?_, World.ownsRow_nil _ _ _ _, Grown.below e2, hC.ext e2, by simpa [varsL] using owns_ext hU e2⟩
    have := row_new (W.alloc (.cells #[.int .i64 op, .int .i64 num, .slice none 0 0] 24)) [.int .i64 0, .int .i64 0, .slice none 0 0] 24
    rwa [World.size_alloc] at this
  case round =>
    obtain ⟨k, hk, rfl, v', u, ys, hR, hR1, hA, hG, hC1, hU1⟩ := hrel
    have hsg := hG.size
    by_cases hlt : k < xs.length
    · obtain ⟨b, off, a', c', hSb, hel⟩ := hel0.out k hlt
      have hS0 : ∀ b, S b → b < W.heap.size → b ≠ Bo ∧ u0.ownBlock ≠ some b := fun b hb hl => ⟨(hS b hb).2, fun e => by have := (hU.lt b e).1; have := (hS b hb).1; omega⟩
      have HX := Lib.hid (hG.expr hel.ex.bound (fun b hb => hS0 b hb.1 hb.2))
      have q := hel.idx
      have HEL := Lib.hid (hel0.out k hlt)
      have hbl := World.block_lt_of_cell? W _ hel.c0
      have c0 : wr.cell? ⟨b, off, none⟩ = some (.int .i64 (nthE xs k).op) := (World.cell?_of_block (hG.1.block b (hS0 b hSb hbl) hbl)).trans hel.c0
      have c1 : wr.cell? ⟨b, off + 1, none⟩ = some (.int .i64 (nthE xs k).num) := (World.cell?_of_block (hG.1.block b (hS0 b hSb hbl) hbl)).trans hel.c1
      have c2 : wr.cell? ⟨b, off + 2, none⟩ = some (.slice a' (nthE xs k).args.length c') := (World.cell?_of_block (hG.1.block b (hS0 b hSb hbl) hbl)).trans hel.c2
      go_wp2_with fail
      have hlR := hR.lt
      have hlR1 := hR1.lt
      obtain ⟨w1, hw1⟩ : ∃ w1, w1 = wr.alloc (.cells #[.int .i64 (nthE xs k).op, .int .i64 (nthE xs k).num, .slice a' (nthE xs k).args.length c'] 24) := ⟨_, rfl⟩
      rw [← hw1]
      have hb1 : Below wr.heap.size wr w1 := by rw [hw1]; exact ext_alloc wr _
      have hX1 : Row w1 wr.heap.size 24 [.int .i64 (nthE xs k).op, .int .i64 (nthE xs k).num, .slice a' (nthE xs k).args.length c'] := by rw [hw1]; exact row_new wr _ _
      clear hw1 q c0 c1 c2
      have hlX := hX1.lt
      have hR2 := hR.ext hb1
      obtain ⟨x0, x1, x2⟩ := hX1.three
      have ce := hR2.cell (j := 2) rfl
      have HV1 : Row wr Bv 3 [.int .i64 vars] := hG.row hV hvo (fun e => by have := (hU.lt Bv e).1; omega)
      have HIH := Lib.hid (ih _ (nthE_mem hlt))
      have hszk := sizeL_nth hlt
      have hvl : (l ++ varsL vars (xs.take k)).length ≤ l.length + sizeL (xs.take k) := by rw [List.length_append]; have := varsL_len vars (xs.take k); omega
      have IK := Lib.hid (fun W' (hW' : Below w1.heap.size w1 W') => HIH.out (fun b => S b ∧ b < W.heap.size) W' Bv Bo base _ u (l ++ varsL vars (xs.take k)) ((HV1.ext hb1).ext hW') ((hC1.ext hb1).ext hW') (owns_ext (owns_ext hU1 hb1) hW') hBb (by have := hb1.size; have := hW'.size; omega) hvo hvb (fun b hb => hS b hb.1) ((HX.out.ext hb1).ext hW') (by omega))
      have hrefl := Below.refl w1.heap.size w1
      have B1 := Lib.hid (show k + 1 ≤ maxLen by unfold maxLen; omega)
      have B2 := Lib.hid (show (k + 1) * 40 ≤ 140737488355328 by omega)
      have HO1 := Lib.hid (owns_ext hA hb1)
      have HUW := Lib.hid (owns_ext hU1 hb1)
      have HNR := Lib.hid (row_ne hR hU1 types_lt.1)
      have HNE := Lib.hid (show v'.ownBlock ≠ some W.heap.size from fun h => by have := (hA.lt _ h).1; omega)
      go_region_law
        (first
          | (go_simp; go_at_call 58; refine (IK.out _ (by first | assumption | (apply Below.drew; assumption))).mono ?_; rintro _ w5 ⟨o5, n5, a5, m5, c5, u5, rfl, hG5', hC5, hU5⟩; have hG5 : Grown Bo u u5 w1 w5 := (Grown.below (by first | assumption | (apply Below.drew; assumption))).trans hG5'; have hR5 := hG5.row hR2 (by omega) HNR.out; have ce5 := hR5.cell (j := 2) rfl; have OWN5 := Lib.hid (owns_agree (S := fun b => v'.ownBlock = some b) HO1.out (hG5.1.mono fun b hb => ⟨fun e => (by have := (HO1.out.lt b hb).1; omega), fun e => owns_ne HO1.out HUW.out types_lt.1 b hb e⟩) (fun k hk => hk)); have hl5 : W.heap.size < w5.heap.size := (by have := hG5.size; have := hb1.size; omega))
          | (refine step_append_lies _ (by rfl) _ _ _ (by rfl) (W.heap.size + 2) 24 i0 _ 3 40 Tryd.underlying22 hi hz0 hz1 hz2 rfl (by decide) v' k ys (by rfl) (by first | exact OWN5.out.alloc _ | exact (OWN5.out.alloc _).drew) ⟨w5.heap.size, 0, none⟩ 1 1 [.int .i64 o5, .int .i64 n5, .slice a5 m5 c5] (by rfl) (by rfl)
              (World.news_of_block (cs := #[.int .i64 o5, .int .i64 n5, .slice a5 m5 c5]) (t := 24) (fr := (0, 0)) (heap_alloc_new w5 _)) (by simp [Value.oneCell']) (by decide) B1.out B2.out (by simp; omega) (w5.heap.size + 1) (by simp) ?_; intro g6 cp6 w6 hown6 hgrow6 hat6 hlt6; have hR6 := Row.grown (hR5.alloc (.cells #[.int .i64 o5, .int .i64 n5, .slice a5 m5 c5] 24)) hgrow6 HNE.out; have ce6 := hR6.cell (j := 2) rfl; have fr6 := hR6.free 2))
      all_goals
        have HRA := round_free hbo hG hb1 hG5 hR hR1 hA hU1 hC5 hU5 hown6 hgrow6
        obtain ⟨hG7, hR7, hR17, hA7, hC7, hU7⟩ := HRA
        have HSN := Lib.hid (show l ++ varsL vars (xs.take (k + 1)) = l ++ varsL vars (xs.take k) ++ varsE vars (nthE xs k) by rw [take_nthE hlt, varsL_flat, varsL_flat, List.flatMap_append, List.append_assoc]; simp)
        rw [← HSN.out] at hU7
        go_wp2
        go_roundw
        case rel => exact ⟨k + 1, by omega, by go_num, _, _, _, hR7, hR17, hA7, hG7, hC7, hU7⟩
        case measure => simp [intOf]; omega
    · obtain rfl : k = xs.length := by omega
      rw [List.take_length] at hU1
      obtain ⟨a2, c2, hv2⟩ : ∃ a2 c2, v' = .slice a2 xs.length c2 := by
        rcases hA.2 with ⟨rfl, h0⟩ | ⟨g, cap, cur, rfl, _⟩
        · exact ⟨none, 0, by rw [h0]⟩
        · exact ⟨_, _, rfl⟩
      subst hv2
      have hvl := varsL_len vars xs
      have HF := Lib.hid (free1_calls wr Bv Bo base vars op num a2 c2 xs.length u (l ++ varsL vars xs) (hG.row hV hvo (fun e => by have := (hU.lt Bv e).1; omega)) hC1 hU1 hBb (by omega) (by rw [List.length_append]; omega))
      have HEV := Lib.hid (show varsE vars (.node op num xs) = varsL vars xs ++ if op = 1 ∧ num < vars then [num] else [] by rw [varsE])
      obtain ⟨x0, x1, x2⟩ := hR.three
      have hlR := hR.lt
      have hlR1 := hR1.lt
      have HN1 := Lib.hid (row_ne hR1 hU1 types_lt.1)
      obtain ⟨m, hm9⟩ : ∃ m, m = xs.length := ⟨_, rfl⟩
      rw [← hm9] at x2 HF
      clear hm9 hA
      go_wp2_with fail
      refine HF.out.mono ?_
      rintro _ w2 ⟨o5, n5, a5, m5, c5, u2, rfl, hG2, hC2, hU2⟩
      have hR12 := hG2.row hR1 (by omega) HN1.out
      obtain ⟨r0, r1, r2⟩ := hR12.three
      have q0 := hR12.free 0
      have q1 := hR12.free 1
      have q2 := hR12.free 2
      have hl12 := hR12.lt
      go_wp2
      refine bodyPost_ret (v := .agg #[.int .i64 o5, .int .i64 n5, .slice a5 m5 c5]) (by simp [results, Tryd.results58, go_sem, r0, r1, r2]) rfl ?_
      rw [HEV.out, ← List.append_assoc]
      exact FPost.fin (hG.trans hG2) hC2 hU2 (by omega) (by omega) hl12 _ _ _ _ _ rfl (row_ne hR12 hU2 types_lt.1)
theorem copyF_all (vars : Int) (e : Ex) : sizeE e ≤ 1000 → CopyF vars e := by
  induction e using Ex.ind with
  | h op num xs ih =>
    intro hs
    simp only [sizeE] at hs
    exact copyF_node vars op num xs (by omega) fun x hx => ih x hx (by have := sizeE_mem hx; omega)

end Go.Proofs.YtifkkajgcekafaaDoor
