/- Lists of expressions that a call makes, element by element. -/
import Derived.Test.YthogcbffnbhalaaDoorExTruth
import Derived.Deep.DrawnRows
namespace Go.Proofs.YthogcbffnbhalaaDoor
set_option linter.unusedVariables false
open Go.RowKit

theorem info_expr3 : (Tryd.prog.info? 24).map (fun i => (i.zero, i.size, i.bytes)) = some (some (.agg #[.int .i64 0, .int .i64 0, .slice none 0 0]), 3, 40) := by kernel_rfl

/-- Elements whose blocks lie in S and are there already. -/
theorem ExprV.bound {S : Nat → Prop} {w : World} {e : Ex} {v : Value} (h : ExprV S w e v) : ExprV (fun b => S b ∧ b < w.heap.size) w e v := by
  induction h with
  | mk wo wn ha hl hm hc hx ih =>
    refine .mk wo wn ?_ hl hm hc ih
    rcases ha with ha | ⟨b, off, h1, h2, h3⟩
    · exact .inl ha
    · exact .inr ⟨b, off, h1, h2, h3, h2⟩

structure Tri where
  x : Value
  y : Value
  z : Value
def Tri.v (t : Tri) : Value := .agg #[t.x, t.y, t.z]
def flat (us : List Tri) : List Value := us.flatMap fun t => [t.x, t.y, t.z]
theorem flat_snoc (us : List Tri) (t : Tri) : flat (us ++ [t]) = flat us ++ [t.x, t.y, t.z] := by simp [flat]
theorem flat_length (us : List Tri) : (flat us).length = us.length * 3 := by
  induction us with
  | nil => rfl
  | cons t us ih => simp only [flat, List.flatMap_cons, List.length_append, List.length_cons, List.length_nil] at ih ⊢; omega
theorem flat_get (us : List Tri) (j : Nat) (h : j < us.length) : (flat us)[j * 3]? = some us[j].x ∧ (flat us)[j * 3 + 1]? = some us[j].y ∧ (flat us)[j * 3 + 2]? = some us[j].z := by
  induction us generalizing j with
  | nil => simp at h
  | cons t us ih =>
    cases j with
    | zero => exact ⟨rfl, rfl, rfl⟩
    | succ j =>
      have := ih j (by simpa using h)
      have e1 : (j + 1) * 3 = j * 3 + 3 := by omega
      rw [e1]
      exact this

/-- A slice of the call's own that reads as a list of expressions, whose own lists lie in S. -/
def Args3 (S : Nat → Prop) (base : Nat) (w : World) (v : Value) (us : List Tri) (ys : List Ex) : Prop :=
  us.length = ys.length ∧ w.ownsRow base 24 3 v ys.length (flat us) ∧ (∀ j, (h : j < us.length) → ExprV S w (nthE ys j) (us[j].v)) ∧ (∀ k, v.ownBlock = some k → ¬ S k)
theorem Args3.nil (base : Nat) (w : World) : Args3 (fun _ => False) base w (.slice none 0 0) [] [] :=
  ⟨rfl, World.ownsRow_nil _ _ _ _, fun j h => by simp at h, fun k h => by simp [Value.ownBlock] at h⟩
theorem Args3.agree {S : Nat → Prop} {base : Nat} {w w' : World} {v : Value} {us : List Tri} {ys : List Ex} (h : Args3 S base w v us ys) (hw : Agree (fun b => S b ∨ v.ownBlock = some b) w w') : Args3 S base w' v us ys :=
  ⟨h.1, owns_agree h.2.1 hw (fun k hk => .inr hk), fun j hj => (h.2.2.1 j hj).agree (hw.mono fun b hb => .inl hb), h.2.2.2⟩
theorem Args3.ext {S : Nat → Prop} {base : Nat} {w w' : World} {v : Value} {us : List Tri} {ys : List Ex} (h : Args3 S base w v us ys) (hw : Below w.heap.size w w') : Args3 S base w' v us ys := h.agree (.of_ext hw)
theorem Args3.own_lt {S : Nat → Prop} {base : Nat} {w : World} {v : Value} {us : List Tri} {ys : List Ex} (h : Args3 S base w v us ys) (k : Nat) (hk : v.ownBlock = some k) : base ≤ k ∧ k < w.heap.size := h.2.1.lt k hk
theorem Args3.mono {S S' : Nat → Prop} {base : Nat} {w : World} {v : Value} {us : List Tri} {ys : List Ex} (h : Args3 S base w v us ys) (hS : ∀ b, S b → S' b) (hk : ∀ k, v.ownBlock = some k → ¬ S' k) : Args3 S' base w v us ys :=
  ⟨h.1, h.2.1, fun j hj => (h.2.2.1 j hj).mono hS, hk⟩
/-- The blocks, without those that are yet to come. -/
theorem Args3.bound {S : Nat → Prop} {base : Nat} {w : World} {v : Value} {us : List Tri} {ys : List Ex} (h : Args3 S base w v us ys) : Args3 (fun b => S b ∧ b < w.heap.size) base w v us ys :=
  ⟨h.1, h.2.1, fun j hj => (h.2.2.1 j hj).bound, fun k hk hc => h.2.2.2 k hk hc.1⟩

theorem nthE_snoc_lt {l : List Ex} {y : Ex} {j : Nat} (h : j < l.length) : nthE (l ++ [y]) j = nthE l j := by simp [nthE, List.getElem?_append_left h]
theorem nthE_snoc_eq {l : List Ex} {y : Ex} : nthE (l ++ [y]) l.length = y := by simp [nthE]
/-- One more element. -/
theorem Args3.push {S : Nat → Prop} {base : Nat} {w w' : World} {v : Value} {us : List Tri} {ys : List Ex} {y : Ex} {t : Tri} {g cap n : Nat} (h : Args3 S base w v us ys) (hn : n = ys.length) (hS : ∀ b, S b → b < w.heap.size) (hy : ExprV S w y t.v)
    (hown : w'.ownsRow base 24 3 (.slice (some ⟨g, 0, none⟩) (n + 1) cap) (n + 1) (flat us ++ [t.x, t.y, t.z])) (hgrow : w.grownBy w' v.ownBlock) (hg : v.ownBlock = some g ∨ w.heap.size ≤ g) :
    Args3 S base w' (.slice (some ⟨g, 0, none⟩) (ys.length + 1) cap) (us ++ [t]) (ys ++ [y]) := by
  subst hn
  have hag : Agree S w w' := .of_grown hgrow fun b hb e => h.2.2.2 b e hb
  refine ⟨by simp [h.1], ?_, ?_, ?_⟩
  · rw [flat_snoc, List.length_append]; exact hown
  · intro j hj
    by_cases hlt : j < us.length
    · rw [nthE_snoc_lt (by rw [← h.1]; exact hlt), List.getElem_append_left hlt]
      exact (h.2.2.1 j hlt).agree hag
    · have hj' : j = us.length := by simp at hj; omega
      subst hj'
      have e : nthE (ys ++ [y]) us.length = y := by rw [h.1]; exact nthE_snoc_eq
      rw [e]
      have e2 : (us ++ [t])[us.length] = t := by simp
      rw [e2]
      exact hy.agree hag
  · intro k hk
    simp only [Value.ownBlock, Option.some.injEq] at hk
    subst hk
    rcases hg with hg | hg
    · exact h.2.2.2 _ hg
    · intro hc; have := hS _ hc; omega
/-- The list as the list of an expression. -/
theorem Args3.expr {S : Nat → Prop} {base : Nat} {w : World} {v : Value} {us : List Tri} {ys : List Ex} (h : Args3 S base w v us ys) {op num : Int} (wo : WF op) (wn : WF num) :
    ExprV (fun b => S b ∨ v.ownBlock = some b) w (.node op num ys) (.agg #[.int .i64 op, .int .i64 num, v]) := by
  have hcell := h.2.1
  rcases h.2.1.2 with ⟨hv, h0⟩ | ⟨g, cap, cur, hv, hb, hg, hnc, hcm, _⟩
  · subst hv
    have hy : ys = [] := List.eq_nil_of_length_eq_zero h0
    subst hy
    exact .mk (xs := []) (us := fun _ => undef) wo wn (.inl ⟨rfl, rfl⟩) (Nat.le_refl _) (by simp [maxLen]) (fun j hj => by simp at hj) (fun j hj => by simp at hj)
  · subst hv
    refine .mk (us := fun j => (us[j]?.map Tri.v).getD undef) wo wn (.inr ⟨g, 0, rfl, (Array.getElem?_eq_some_iff.1 hg).1, .inr rfl⟩) hnc hcm (fun j hj => ?_) (fun j hj => ?_)
    · have hj' : j < us.length := by rw [h.1]; exact hj
      have hf := flat_get us j hj'
      have c : ∀ i u, (flat us)[i]? = some u → w.cell? ⟨g, i, none⟩ = some u := by
        intro i u hi
        rw [hcell.cellAt i (by have := (List.getElem?_eq_some_iff.1 hi).1; rwa [flat_length, h.1] at this)]
        exact hi
      refine ⟨us[j].x, us[j].y, us[j].z, by simp [hj', Tri.v], ?_, ?_, ?_⟩
      · rw [adr_add, Nat.zero_add]; exact c _ _ hf.1
      · rw [adr_off, adr_add, Nat.zero_add]; exact c _ _ hf.2.1
      · rw [adr_off, adr_add, Nat.zero_add]; exact c _ _ hf.2.2
    · have hj' : j < us.length := by rw [h.1]; exact hj
      have := (h.2.2.1 j hj').mono (S' := fun b => S b ∨ Value.ownBlock (.slice (some ⟨g, 0, none⟩) ys.length cap) = some b) (fun b hb => .inl hb)
      simpa [hj'] using this

theorem set3_expr {R base : Nat} {w : World} {e : Ex} {v : Value} (u0 u1 u2 : Value) (h : ExprV (fun b => base ≤ b) w e v) (hR : R < base) : ExprV (fun b => base ≤ b) (((w.setCell ⟨R, 0, none⟩ u0).setCell ⟨R, 1, none⟩ u1).setCell ⟨R, 2, none⟩ u2) e v := by
  have hne : ∀ b, base ≤ b → some R ≠ some b := fun b hb e => by cases e; omega
  exact h.agree (((Agree.of_grown (grownBy_setCell w R 0 u0) hne).trans (.of_grown (grownBy_setCell _ R 1 u1) hne)).trans (.of_grown (grownBy_setCell _ R 2 u2) hne))
theorem set3_below {R B : Nat} {W w : World} (u0 u1 u2 : Value) (h : Below B W w) (hR : B ≤ R) : Below B W (((w.setCell ⟨R, 0, none⟩ u0).setCell ⟨R, 1, none⟩ u1).setCell ⟨R, 2, none⟩ u2) :=
  ((h.setCell (by simpa using hR) _).setCell (by simpa using hR) _).setCell (by simpa using hR) _
theorem ExprV.nilargs (S : Nat → Prop) (w : World) {op num : Int} (wo : WF op) (wn : WF num) : ExprV S w (.node op num []) (.agg #[.int .i64 op, .int .i64 num, .slice none 0 0]) :=
  .mk (xs := []) (us := fun _ => undef) wo wn (.inl ⟨rfl, rfl⟩) (Nat.le_refl _) (by simp [maxLen]) (fun j hj => by simp at hj) (fun j hj => by simp at hj)
/-- What a round of 'x.Args = append(x.Args, f(a))' leaves: x lies in block Bx. -/
theorem round_args {W wr w1 w5 w6 : World} {base Bx : Nat} {c0 c1 v' : Value} {us : List Tri} {ys : List Ex} {y : Ex} {T : Nat → Prop} {x0 x1 x2 : Value} {g6 cp6 n : Nat}
    (hBx : W.heap.size ≤ Bx) (hBb : Bx < base) (hbase : base ≤ wr.heap.size) (hb : Below W.heap.size W wr) (hb1 : Below wr.heap.size wr w1) (hbb : Below w1.heap.size w1 w5)
    (hR : Row wr Bx 24 [c0, c1, v']) (hA : Args3 T base wr v' us ys) (hT : ∀ b, T b → base ≤ b) (hx5 : ExprV (fun b => w1.heap.size ≤ b) w5 y (.agg #[x0, x1, x2])) (hn : n = ys.length)
    (hown6 : w6.ownsRow base 24 3 (.slice (some ⟨g6, 0, none⟩) (n + 1) cp6) (n + 1) (flat us ++ [x0, x1, x2])) (hgrow6 : (w5.alloc (.cells #[x0, x1, x2] 24)).grownBy w6 v'.ownBlock) (hat6 : v'.ownBlock = some g6 ∨ g6 = w5.heap.size + 1) :
    Below W.heap.size W (w6.setCell ⟨Bx, 2, none⟩ (.slice (some ⟨g6, 0, none⟩) (n + 1) cp6)) ∧ Row (w6.setCell ⟨Bx, 2, none⟩ (.slice (some ⟨g6, 0, none⟩) (n + 1) cp6)) Bx 24 [c0, c1, .slice (some ⟨g6, 0, none⟩) (n + 1) cp6] ∧
      (∀ g e xs, g < base → g ≠ Bx → Row wr g e xs → Row (w6.setCell ⟨Bx, 2, none⟩ (.slice (some ⟨g6, 0, none⟩) (n + 1) cp6)) g e xs) ∧
      ∃ T', Args3 T' base (w6.setCell ⟨Bx, 2, none⟩ (.slice (some ⟨g6, 0, none⟩) (n + 1) cp6)) (.slice (some ⟨g6, 0, none⟩) (n + 1) cp6) (us ++ [⟨x0, x1, x2⟩]) (ys ++ [y]) ∧ ∀ b, T' b → base ≤ b := by
  have h15 : Below wr.heap.size wr w5 := ext_trans hb1 hbb
  have h1s := hb1.size
  have h5s := hbb.size
  have h6s : Below wr.heap.size wr (w5.alloc (.cells #[x0, x1, x2] 24)) := ext_alloc' h15 _
  have hown := hA.own_lt
  have hg6 : base ≤ g6 := by
    rcases hat6 with h | h
    · exact (hown _ h).1
    · omega
  have hrow : ∀ g e xs, g < base → Row wr g e xs → Row w6 g e xs := fun g e xs hg h => (h.ext h6s).grown hgrow6 fun hk => by have := (hown _ hk).1; omega
  refine ⟨?_, ?_, ?_, ?_⟩
  · refine Below.setCell ?_ (by simpa using hBx) _
    refine Below.grown ?_ hgrow6 (by have := hb.size; simp; omega) fun k hk => by have := (hown _ hk).1; omega
    exact hb.trans (h6s.mono hb.size)
  · exact (hrow _ _ _ hBb hR).set 2 _
  · intro g e xs hg hne h
    exact (hrow _ _ _ hg h).grown (grownBy_setCell w6 Bx 2 _) (by simpa using fun h => hne h.symm)
  · have hT' : ∀ b, ((T b ∧ b < wr.heap.size) ∨ (w1.heap.size ≤ b ∧ b < w5.heap.size)) → base ≤ b ∧ b < w5.heap.size := by
      rintro b (⟨h1, h2⟩ | ⟨h1, h2⟩)
      · exact ⟨hT b h1, by omega⟩
      · exact ⟨by omega, h2⟩
    have hA5 := (hA.bound.ext h6s).mono (S' := fun b => (T b ∧ b < wr.heap.size) ∨ (w1.heap.size ≤ b ∧ b < w5.heap.size)) (fun b h => .inl h) (fun k hk hc => by
      rcases hc with ⟨h1, _⟩ | ⟨h1, _⟩
      · exact hA.2.2.2 k hk h1
      · have := (hown k hk).2; omega)
    have hy : ExprV (fun b => (T b ∧ b < wr.heap.size) ∨ (w1.heap.size ≤ b ∧ b < w5.heap.size)) (w5.alloc (.cells #[x0, x1, x2] 24)) y (Tri.v ⟨x0, x1, x2⟩) := (hx5.bound.ext (ext_alloc _ _)).mono fun b h => .inr h
    have hp := hA5.push hn (fun b h => by have := (hT' b h).2; simp; omega) hy hown6 hgrow6 (hat6.imp id fun h => by simp; omega)
    subst hn
    refine ⟨_, hp.agree (.of_grown (grownBy_setCell w6 Bx 2 _) ?_), fun b h => (hT' b h).1⟩
    intro b hc hk
    simp only [Option.some.injEq] at hk
    rcases hc with hc | hc
    · have := (hT' b hc).1; omega
    · simp only [Value.ownBlock, Option.some.injEq] at hc; omega
end Go.Proofs.YthogcbffnbhalaaDoor

