/- Words for the walks of the statements on solutions. -/
import Derived.Test.YtijmjliijjkcbaaMxRefSol
import Derived.Test.YtijmjliijjkcbaaMxRank
import Derived.Test.YtijmjliijjkcbaaMxRefVer
import Derived.Test.YtijmjliijjkcbaaMxVerify
namespace Go.Proofs.Ytijmjliijjkcbaa
set_option linter.unusedVariables false
open Go.RowKit

/-- What a call leaves that answers with a vector and an error's number. -/
def PVec (l : List Int) (e : Int) (w' : World) (r : Value) : Prop := ∃ a cap, r = .tuple #[.slice a l.length cap, .int .i64 e] ∧ Ints TT w' (.slice a l.length cap) l
theorem applyP_gen {S S' : Nat → Prop} {w : World} {va vx : Value} {m : Mx} {x l : List Int} {e : Int} (ha : MatV S w va m) (hx : Ints S' w vx x) (h : applyS m x = (l, e)) : Calls Try.prog 31 #[va, vx] w (Post w (PVec l e)) := apply_gen ha hx h
/-- What a call leaves that answers with a solution, a refutation, a bool and an error's number. -/
def PSol (x y : List Int) (q : Bool) (e : Int) (w' : World) (r : Value) : Prop := ∃ a c b d, r = .tuple #[.slice a x.length c, .slice b y.length d, .bool q, .int .i64 e] ∧ Ints TT w' (.slice a x.length c) x ∧ Ints TT w' (.slice b y.length d) y
theorem solve_gen {S S' : Nat → Prop} {w : World} {va vb : Value} {m : Mx} {b x y : List Int} {q : Bool} {e : Int} (ha : MatV S w va m) (hb : Ints S' w vb b) (h : solS m b = ((x, y), (q, e))) : Calls Try.prog 23 #[va, vb] w (Post w (PSol x y q e)) :=
  (solve_calls ha hb).mono fun _ _ h1 => h1.imp fun _ _ h1 => RetSol.lit h1 h rfl rfl
theorem refSolve_gen {S S' : Nat → Prop} {w : World} {va vb : Value} {m : Mx} {b x y : List Int} {q : Bool} {e : Int} (ha : MatV S w va m) (hb : Ints S' w vb b) (hcs : checkM m = 0 → m.cols ≤ 4000) (h : solS m b = ((x, y), (q, e))) : Calls Try.prog 24 #[va, vb] w (Post w (RetSl3 x q e)) := by
  have := refSolve_calls ha hb hcs
  rw [h] at this
  exact this
theorem refVerify_gen {S S' S2 : Nat → Prop} {w : World} {va vb vy : Value} {m : Mx} {b y : List Int} {c : Int} (ha : MatV S w va m) (hb : Ints S' w vb b) (hy : Ints S2 w vy y) (h : verS m b y = c) : Calls Try.prog 26 #[va, vb, vy] w (Post w fun _ r => r = .int .i64 c) :=
  (refVerify_calls ha hb hy).mono fun _ _ h1 => h1.imp fun _ _ h1 => by rw [h1, h]
theorem verify_gen {S S' S2 : Nat → Prop} {w : World} {va vb vy : Value} {m : Mx} {b y : List Int} {c : Int} (ha : MatV S w va m) (hb : Ints S' w vb b) (hy : Ints S2 w vy y) (h : verS m b y = c) : Calls Try.prog 27 #[va, vb, vy] w (Post w fun _ r => r = .int .i64 c) :=
  (verify_calls ha hb hy).mono fun _ _ h1 => h1.imp fun _ _ h1 => by rw [h1, h]
theorem refVector_gen {S : Nat → Prop} {w : World} {v : Value} {l : List Int} {n c : Int} (h : Ints S w v l) (hc : vecE n l = c) : Calls Try.prog 30 #[.int .i64 n, v] w (Post w fun _ r => r = .int .i64 c) :=
  (refVector_quiet h n).mono fun _ _ h1 => h1.post.imp fun _ _ h1 => by rw [h1, hc]
theorem equal_gen {S S' : Nat → Prop} {w : World} {va vb : Value} {a b : List Int} {q : Bool} (ha : Ints S w va a) (hb : Ints S' w vb b) (e : decide (a = b) = q) : Calls Try.prog 25 #[va, vb] w (Post w fun _ r => r = .bool q) :=
  (equal_calls ha hb).mono fun _ _ h => h.imp fun _ r h => by rw [h, e]
theorem fewM_cols' {m : Mx} (h : fewM m = true) : checkM m = 0 → m.cols ≤ 4000 := fun hc => by have := (fewM_cols h (checkM_zero.1 hc)).1; omega
end Go.Proofs.Ytijmjliijjkcbaa
