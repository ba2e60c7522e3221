/- Normal, its answer named. -/
import Derived.Test.YtifcgcdbebgahaaClLaw3
namespace Go.Proofs.Ytifcgcdbebgahaa
set_option linter.unusedVariables false
open Go.RowKit

theorem retM_lit {base : Nat} {x : Mx × Int} {w' : World} {r : Value} {c e : Int} {l : List (List Int)} {n : Nat} (h : RetM base x w' r) (hx : x = (⟨c, l⟩, e)) (hn : n = l.length) :
    ∃ a cap, r = .tuple #[.agg #[.int .i64 c, .slice a n cap], .int .i64 e] ∧ MatV TT w' (.agg #[.int .i64 c, .slice a n cap]) ⟨c, l⟩ := by
  subst hx hn
  obtain ⟨mv, rfl, rv, rfl, hl⟩ := h
  have hl := hl.mono (S' := TT) fun _ _ => trivial
  obtain ⟨a, cap, rfl, _⟩ := hl.form
  exact ⟨a, cap, rfl, _, rfl, hl⟩
theorem norm_lit {S : Nat → Prop} {w : World} {va : Value} {m : Mx} {c e : Int} {l : List (List Int)} {n : Nat} (ha : MatV S w va m) (hrl : sizesS m = 0 → ∀ r ∈ m.rows, r.length ≤ 100000) (h : normalS m = (⟨c, l⟩, e)) (hn : n = l.length) :
    Calls Try.prog 33 #[va] w (Post w fun w' r => ∃ a cap, r = .tuple #[.agg #[.int .i64 c, .slice a n cap], .int .i64 e] ∧ MatV TT w' (.agg #[.int .i64 c, .slice a n cap]) ⟨c, l⟩) :=
  (normal_calls ha hrl).mono fun _ _ hp => hp.imp fun _ _ hr => retM_lit hr h hn
theorem rnorm_lit {S : Nat → Prop} {w : World} {va : Value} {m : Mx} {c e : Int} {l : List (List Int)} {n : Nat} (ha : MatV S w va m) (hrl : sizesS m = 0 → ∀ r ∈ m.rows, r.length ≤ 100000) (h : normalS m = (⟨c, l⟩, e)) (hn : n = l.length) :
    Calls Try.prog 34 #[va] w (Post w fun w' r => ∃ a cap, r = .tuple #[.agg #[.int .i64 c, .slice a n cap], .int .i64 e] ∧ MatV TT w' (.agg #[.int .i64 c, .slice a n cap]) ⟨c, l⟩) :=
  (refNormal_calls ha hrl).mono fun _ _ hp => hp.imp fun _ _ hr => retM_lit hr h hn
end Go.Proofs.Ytifcgcdbebgahaa
