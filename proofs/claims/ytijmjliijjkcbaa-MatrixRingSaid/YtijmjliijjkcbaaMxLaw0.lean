/- Words for the walks of the statements on matrices. -/
import Derived.Test.YtijmjliijjkcbaaMxAwake
import Derived.Test.YtijmjliijjkcbaaMxC
import Derived.Test.YtijmjliijjkcbaaMxTrA
namespace Go.Proofs.Ytijmjliijjkcbaa
set_option linter.unusedVariables false
open Go.RowKit

/-- few(m), behind the making of its list. -/
theorem few1 {S : Nat → Prop} {w : World} {B : Nat} {c : Int} {a : Option Addr} {n cap : Nat} {ll : List (List Int)} {e : TypeId} (h : MatV S w (.agg #[.int .i64 c, .slice a n cap]) ⟨c, ll⟩) (hB : B = w.heap.size) :
    Calls Try.prog 14 #[.slice (some ⟨B, 0, none⟩) 1 1] (w.alloc (.cells #[.int .i64 c, .slice a n cap] e)) (Post (w.alloc (.cells #[.int .i64 c, .slice a n cap] e)) fun _ r => r = .bool (fewM ⟨c, ll⟩)) := by
  subst hB
  obtain ⟨rv, hv, hl⟩ := h
  have hrv : rv = .slice a n cap := by
    have := congrArg (fun v => match v with | .agg xs => xs[1]? | _ => none) hv
    simpa using this.symm
  subst hrv
  have hM : MatsV S (w.alloc (.cells #[.int .i64 c, .slice a n cap] e)) w.heap.size [⟨c, ll⟩] := by
    refine ⟨by simp, fun j hj => ?_⟩
    obtain rfl : j = 0 := by simpa using hj
    have r := row_new w [.int .i64 c, .slice a n cap] e
    exact ⟨_, r.two.1, r.two.2, hl.ext (ext_alloc _ _)⟩
  have := few_calls hM (by simp)
  simpa using this
/-- Contracts with their answers named. -/
theorem trans_gen {S : Nat → Prop} {w : World} {va : Value} {m : Mx} {c e : Int} {ll : List (List Int)} (ha : MatV S w va m) (h : transS m = (⟨c, ll⟩, e)) : Calls Try.prog 37 #[va] w (Post w fun w' r => ∃ a cap, r = .tuple #[.agg #[.int .i64 c, .slice a ll.length cap], .int .i64 e] ∧ MatV TT w' (.agg #[.int .i64 c, .slice a ll.length cap]) ⟨c, ll⟩) :=
  (transpose_calls ha).mono fun _ _ h1 => h1.imp fun _ _ h1 => RetM.lit h1 h rfl
theorem refTrans_gen {S : Nat → Prop} {w : World} {va : Value} {m : Mx} {c e : Int} {ll : List (List Int)} (ha : MatV S w va m) (h : transS m = (⟨c, ll⟩, e)) : Calls Try.prog 38 #[va] w (Post w fun w' r => ∃ a cap, r = .tuple #[.agg #[.int .i64 c, .slice a ll.length cap], .int .i64 e] ∧ MatV TT w' (.agg #[.int .i64 c, .slice a ll.length cap]) ⟨c, ll⟩) :=
  (refTranspose_calls ha).mono fun _ _ h1 => h1.imp fun _ _ h1 => RetM.lit h1 h rfl
theorem RetV.gen {base : Nat} {x : List Int × Int} {w' : World} {r : Value} {e : Int} {l : List Int} (h : RetV base x w' r) (hx : x = (l, e)) : ∃ a cap, r = .tuple #[.slice a l.length cap, .int .i64 e] ∧ Ints TT w' (.slice a l.length cap) l := by
  subst hx
  obtain ⟨v, rfl, hl⟩ := h
  have hl := hl.mono (S' := TT) fun _ _ => trivial
  obtain ⟨a, cap, rfl, _⟩ := hl.form
  exact ⟨a, cap, rfl, hl⟩
theorem apply_gen {S S' : Nat → Prop} {w : World} {va vx : Value} {m : Mx} {x l : List Int} {e : Int} (ha : MatV S w va m) (hx : Ints S' w vx x) (h : applyS m x = (l, e)) : Calls Try.prog 31 #[va, vx] w (Post w fun w' r => ∃ a cap, r = .tuple #[.slice a l.length cap, .int .i64 e] ∧ Ints TT w' (.slice a l.length cap) l) :=
  (apply_calls ha hx).mono fun _ _ h1 => h1.imp fun _ _ h1 => h1.gen h
theorem refApply_gen {S S' : Nat → Prop} {w : World} {va vx : Value} {m : Mx} {x l : List Int} {e : Int} (ha : MatV S w va m) (hx : Ints S' w vx x) (h : applyS m x = (l, e)) : Calls Try.prog 39 #[va, vx] w (Post w fun w' r => ∃ a cap, r = .tuple #[.slice a l.length cap, .int .i64 e] ∧ Ints TT w' (.slice a l.length cap) l) :=
  (refApply_calls ha hx).mono fun _ _ h1 => h1.imp fun _ _ h1 => h1.gen h
theorem check_gen {S : Nat → Prop} {w : World} {va : Value} {m : Mx} {c : Int} (ha : MatV S w va m) (h : checkM m = c) : Calls Try.prog 40 #[va] w (Post w fun _ r => r = .int .i64 c) :=
  (check_calls ha).mono fun _ _ h1 => h1.imp fun _ _ h1 => by rw [h1, h]
theorem refCheck_gen {S : Nat → Prop} {w : World} {va : Value} {m : Mx} {c : Int} (ha : MatV S w va m) (h : checkM m = c) : Calls Try.prog 33 #[va] w (Post w fun _ r => r = .int .i64 c) :=
  (refCheck_calls ha).mono fun _ _ h1 => h1.imp fun _ _ h1 => by rw [h1, h]
end Go.Proofs.Ytijmjliijjkcbaa
