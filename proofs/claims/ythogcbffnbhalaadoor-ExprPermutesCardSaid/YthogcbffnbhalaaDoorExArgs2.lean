/- One more element, where elements may lie in blocks that came in. -/
import Derived.Test.YthogcbffnbhalaaDoorExConst
namespace Go.Proofs.YthogcbffnbhalaaDoor
set_option linter.unusedVariables false
open Go.RowKit

/-- What a round of 'x.Args = append(x.Args, f(a))' leaves: x lies in block Bx. -/
theorem round_args2 {W wr w1 w5 w6 : World} {base Bx : Nat} {c0 c1 v' : Value} {us : List Tri} {ys : List Ex} {y : Ex} {T S0 : Nat → Prop} {x0 x1 x2 : Value} {g6 cp6 n : Nat}
    (hBx : W.heap.size ≤ Bx) (hBb : Bx < base) (hbase : base ≤ wr.heap.size) (hb : Below W.heap.size W wr) (hb1 : Below wr.heap.size wr w1) (hbb : Below w1.heap.size w1 w5)
    (hR : Row wr Bx 24 [c0, c1, v']) (hA : Args3 T base wr v' us ys) (hS0 : ∀ b, S0 b → b < W.heap.size) (hT : ∀ b, T b → S0 b ∨ base ≤ b) (hx5 : ExprV (fun b => S0 b ∨ w1.heap.size ≤ b) w5 y (.agg #[x0, x1, x2])) (hn : n = ys.length)
    (hown6 : w6.ownsRow base 24 3 (.slice (some ⟨g6, 0, none⟩) (n + 1) cp6) (n + 1) (flat us ++ [x0, x1, x2])) (hgrow6 : (w5.alloc (.cells #[x0, x1, x2] 24)).grownBy w6 v'.ownBlock) (hat6 : v'.ownBlock = some g6 ∨ g6 = w5.heap.size + 1) :
    Below W.heap.size W (w6.setCell ⟨Bx, 2, none⟩ (.slice (some ⟨g6, 0, none⟩) (n + 1) cp6)) ∧ Row (w6.setCell ⟨Bx, 2, none⟩ (.slice (some ⟨g6, 0, none⟩) (n + 1) cp6)) Bx 24 [c0, c1, .slice (some ⟨g6, 0, none⟩) (n + 1) cp6] ∧
      (∀ g e xs, g < base → g ≠ Bx → Row wr g e xs → Row (w6.setCell ⟨Bx, 2, none⟩ (.slice (some ⟨g6, 0, none⟩) (n + 1) cp6)) g e xs) ∧
      ∃ T', Args3 T' base (w6.setCell ⟨Bx, 2, none⟩ (.slice (some ⟨g6, 0, none⟩) (n + 1) cp6)) (.slice (some ⟨g6, 0, none⟩) (n + 1) cp6) (us ++ [⟨x0, x1, x2⟩]) (ys ++ [y]) ∧ ∀ b, T' b → S0 b ∨ base ≤ b := by
  have h15 : Below wr.heap.size wr w5 := ext_trans hb1 hbb
  have h1s := hb1.size
  have h5s := hbb.size
  have h6s : Below wr.heap.size wr (w5.alloc (.cells #[x0, x1, x2] 24)) := ext_alloc' h15 _
  have hown := hA.own_lt
  have hg6 : base ≤ g6 := by
    rcases hat6 with h | h
    · exact (hown _ h).1
    · omega
  have hrow : ∀ g e xs, g < base → Row wr g e xs → Row w6 g e xs := fun g e xs hg h => (h.ext h6s).grown hgrow6 fun hk => by have := (hown _ hk).1; omega
  refine ⟨?_, ?_, ?_, ?_⟩
  · refine Below.setCell ?_ (by simpa using hBx) _
    refine Below.grown ?_ hgrow6 (by have := hb.size; simp; omega) fun k hk => by have := (hown _ hk).1; omega
    exact hb.trans (h6s.mono hb.size)
  · exact (hrow _ _ _ hBb hR).set 2 _
  · intro g e xs hg hne h
    exact (hrow _ _ _ hg h).grown (grownBy_setCell w6 Bx 2 _) (by simpa using fun h => hne h.symm)
  · have hws := hb.size
    have hT' : ∀ b, ((T b ∧ b < wr.heap.size) ∨ S0 b ∨ (w1.heap.size ≤ b ∧ b < w5.heap.size)) → (S0 b ∨ base ≤ b) ∧ b < w5.heap.size := by
      rintro b (⟨h1, h2⟩ | h1 | ⟨h1, h2⟩)
      · exact ⟨hT b h1, by omega⟩
      · have := hS0 b h1; exact ⟨.inl h1, by omega⟩
      · exact ⟨.inr (by omega), h2⟩
    have hA5 := (hA.bound.ext h6s).mono (S' := fun b => (T b ∧ b < wr.heap.size) ∨ S0 b ∨ (w1.heap.size ≤ b ∧ b < w5.heap.size)) (fun b h => .inl h) (fun k hk hc => by
      rcases hc with ⟨h1, _⟩ | h1 | ⟨h1, _⟩
      · exact hA.2.2.2 k hk h1
      · have := (hown k hk).1; have := hS0 k h1; omega
      · have := (hown k hk).2; omega)
    have hy : ExprV (fun b => (T b ∧ b < wr.heap.size) ∨ S0 b ∨ (w1.heap.size ≤ b ∧ b < w5.heap.size)) (w5.alloc (.cells #[x0, x1, x2] 24)) y (Tri.v ⟨x0, x1, x2⟩) := (hx5.bound.ext (ext_alloc _ _)).mono (by
      rintro b ⟨h1 | h1, h2⟩
      · exact .inr (.inl h1)
      · exact .inr (.inr ⟨h1, h2⟩))
    have hp := hA5.push hn (fun b h => by have := (hT' b h).2; simp; omega) hy hown6 hgrow6 (hat6.imp id fun h => by simp; omega)
    subst hn
    refine ⟨_, hp.agree (.of_grown (grownBy_setCell w6 Bx 2 _) ?_), fun b h => (hT' b h).1⟩
    intro b hc hk
    simp only [Option.some.injEq] at hk
    rcases hc with hc | hc
    · rcases (hT' b hc).1 with h | h
      · have := hS0 b h; omega
      · omega
    · simp only [Value.ownBlock, Option.some.injEq] at hc; omega
end Go.Proofs.YthogcbffnbhalaaDoor

