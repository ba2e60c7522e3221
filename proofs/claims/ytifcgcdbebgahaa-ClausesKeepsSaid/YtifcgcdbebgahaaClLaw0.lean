/- The reference's calls, with named answers. -/
import Derived.Test.YtifcgcdbebgahaaClZi
namespace Go.Proofs.Ytifcgcdbebgahaa
set_option linter.unusedVariables false
open Go.RowKit

theorem reval_lit {S S' : Nat → Prop} {w : World} {va vb : Value} {m : Mx} {x : List Int} {i e : Int} {q : Bool} (ha : MatV S w va m) (hx : Ints S' w vb x) (h : evalS m x = (i, q, e)) :
    Calls Try.prog 14 #[va, vb] w (Post w fun _ r => r = .tuple #[.int .i64 i, .bool q, .int .i64 e]) :=
  (refEval_calls ha hx).mono fun _ _ hp => hp.imp fun _ r hr => by rw [hr, h]
theorem rasg_lit {S S' : Nat → Prop} {w : World} {va vb : Value} {m : Mx} {x : List Int} {c e : Int} {ll : List (List Int)} {n : Nat} (ha : MatV S w va m) (hx : Ints S' w vb x) (h : assignS m x = (⟨c, ll⟩, e)) (hn : n = ll.length) :
    Calls Try.prog 16 #[va, vb] w (Post w fun w' r => ∃ a cap, r = .tuple #[.agg #[.int .i64 c, .slice a n cap], .int .i64 e] ∧ MatV TT w' (.agg #[.int .i64 c, .slice a n cap]) ⟨c, ll⟩) := by
  subst hn
  refine (refAssign_calls ha hx).mono fun _ _ hp => hp.imp ?_
  rw [h]
  rintro w' r ⟨mv, rfl, rv, rfl, hl⟩
  have hl := hl.mono (S' := TT) fun _ _ => trivial
  obtain ⟨a, cap, rfl, _⟩ := hl.form
  exact ⟨a, cap, rfl, _, rfl, hl⟩
theorem rprop_lit {S S' : Nat → Prop} {w : World} {va vb : Value} {m : Mx} {x l r : List Int} {i e : Int} {n k : Nat} (ha : MatV S w va m) (hx : Ints S' w vb x) (hxl : x.length ≤ 100000) (h : propS m x = (((l, r), i), e)) (hn : n = l.length) (hk : k = r.length) :
    Calls Try.prog 19 #[va, vb] w (Post w fun w' v => ∃ a c b d, v = .tuple #[.slice a n c, .slice b k d, .int .i64 i, .int .i64 e] ∧ Ints TT w' (.slice a n c) l ∧ Ints TT w' (.slice b k d) r) := by
  subst hn hk
  refine (refPropagate_calls ha hx hxl).mono fun _ _ hp => hp.imp ?_
  rw [h]
  rintro w' v ⟨a, c, b, d, rfl, h1, h2⟩
  exact ⟨a, c, b, d, rfl, h1.mono fun _ _ => trivial, h2.mono fun _ _ => trivial⟩
theorem rres_lit {S S' : Nat → Prop} {w : World} {va vb : Value} {x y l : List Int} {v e : Int} {n : Nat} (ha : Ints S w va x) (hb : Ints S' w vb y) (h : resolveS x y v = (l, e)) (hn : n = l.length) :
    Calls Try.prog 29 #[va, vb, .int .i64 v] w (Post w fun w' r => ∃ a c, r = .tuple #[.slice a n c, .int .i64 e] ∧ Ints TT w' (.slice a n c) l) := by
  subst hn
  refine (refResolve_calls ha hb v).mono fun _ _ hp => hp.imp ?_
  rw [h]
  rintro w' r ⟨a, c, rfl, h1⟩
  exact ⟨a, c, rfl, h1⟩
theorem rsub_calls {S S' : Nat → Prop} {w : World} {va vb : Value} {a b : List Int} (ha : Ints S w va a) (hb : Ints S' w vb b) : Calls Try.prog 31 #[va, vb] w (Post w fun _ r => r = .bool (subP a b)) :=
  (refSubsumes_quiet ha hb).mono fun _ _ h => h.post
theorem rcheck_lit {S : Nat → Prop} {w : World} {va : Value} {m : Mx} (ha : MatV S w va m) : Calls Try.prog 21 #[va] w (Post w fun _ r => r = .int .i64 (checkC m)) := refCheck_calls ha
theorem rtrue_calls {S S' : Nat → Prop} {w : World} {va vb : Value} {a b : List Int} (ha : Ints S w va a) (hb : Ints S' w vb b) : Calls Try.prog 27 #[va, vb] w (Post w fun _ r => r = .bool (trueP a b)) :=
  (refTrue_quiet ha hb).mono fun _ _ h => h.post
theorem rassignment_calls {S : Nat → Prop} {w : World} {v : Value} {l : List Int} (h : Ints S w v l) {n : Int} (hn : 0 ≤ n ∧ n ≤ 100000) : Calls Try.prog 22 #[.int .i64 n, v] w (Post w fun _ r => r = .int .i64 (assignE n l)) :=
  (refAssignment_quiet h hn).mono fun _ _ h => h.post
theorem rclause_calls {S : Nat → Prop} {w : World} {v : Value} {l : List Int} (h : Ints S w v l) {n : Int} (hn : 0 ≤ n ∧ n ≤ 100000) : Calls Try.prog 32 #[.int .i64 n, v] w (Post w fun _ r => r = .int .i64 (clauseE n l)) :=
  (refClause_quiet h hn).mono fun _ _ h => h.post
theorem contains_calls {S : Nat → Prop} {w : World} {v : Value} {l : List Int} (h : Ints S w v l) (x : Int) : Calls Try.prog 25 #[v, .int .i64 x] w (Post w fun _ r => r = .bool (memB l x)) :=
  (contains_quiet h x).mono fun _ _ h => h.post
theorem equal_gen {S S' : Nat → Prop} {w : World} {va vb : Value} {a b : List Int} (ha : Ints S w va a) (hb : Ints S' w vb b) : Calls Try.prog 20 #[va, vb] w (Post w fun _ r => r = .bool (decide (a = b))) := equal_calls ha hb
theorem rwithout_calls {S S' : Nat → Prop} {w : World} {va vb : Value} {c lits : List Int} (ha : Ints S w va c) (hb : Ints S' w vb lits) (hn : c.length ≤ 1000000) :
    Calls Try.prog 26 #[va, vb] w (Post w fun w' r => ∃ a k, r = .slice a (withoutP c lits).length k ∧ Ints TT w' (.slice a (withoutP c lits).length k) (withoutP c lits)) := by
  refine (refWithout_calls ha hb hn).mono fun _ _ hp => hp.imp fun w' r h => ?_
  have h := h.mono (S' := TT) fun _ _ => trivial
  obtain ⟨a, k, rfl, _⟩ := h.form
  exact ⟨a, k, rfl, h⟩
end Go.Proofs.Ytifcgcdbebgahaa
