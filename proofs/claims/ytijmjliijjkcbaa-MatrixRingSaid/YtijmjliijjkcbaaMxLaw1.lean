/- Words for the walks of the statements on echelon forms, ranks and kernels. -/
import Derived.Test.YtijmjliijjkcbaaMxLaw0
import Derived.Test.YtijmjliijjkcbaaMxNul
namespace Go.Proofs.Ytijmjliijjkcbaa
set_option linter.unusedVariables false
open Go.RowKit

theorem RetMT.lit {x : Mx × Int} {w' : World} {r : Value} {c e : Int} {ll : List (List Int)} (h : RetMT x w' r) (hx : x = (⟨c, ll⟩, e)) :
    ∃ a cap, r = .tuple #[.agg #[.int .i64 c, .slice a ll.length cap], .int .i64 e] ∧ MatV TT w' (.agg #[.int .i64 c, .slice a ll.length cap]) ⟨c, ll⟩ := by
  subst hx
  obtain ⟨mv, rfl, rv, rfl, hl⟩ := h
  obtain ⟨a, cap, rfl, _⟩ := hl.form
  exact ⟨a, cap, rfl, _, rfl, hl⟩
/-- What a call leaves that answers with a matrix and an error's number. -/
def PMat (c : Int) (ll : List (List Int)) (e : Int) (w' : World) (r : Value) : Prop := ∃ a cap, r = .tuple #[.agg #[.int .i64 c, .slice a ll.length cap], .int .i64 e] ∧ MatV TT w' (.agg #[.int .i64 c, .slice a ll.length cap]) ⟨c, ll⟩
theorem ech_gen {S : Nat → Prop} {w : World} {va : Value} {m : Mx} {c e : Int} {ll : List (List Int)} (ha : MatV S w va m) (h : echS m = (⟨c, ll⟩, e)) : Calls Try.prog 16 #[va] w (Post w (PMat c ll e)) :=
  (echelonM_calls ha).mono fun _ _ h1 => h1.imp fun _ _ h1 => RetM.lit h1 h rfl
theorem refEch_gen {S : Nat → Prop} {w : World} {va : Value} {m : Mx} {c e : Int} {ll : List (List Int)} (ha : MatV S w va m) (h : echS m = (⟨c, ll⟩, e)) : Calls Try.prog 17 #[va] w (Post w (PMat c ll e)) :=
  (refEchelon_calls ha).mono fun _ _ h1 => h1.imp fun _ _ h1 => RetMT.lit h1 h
theorem rank_gen {S : Nat → Prop} {w : World} {va : Value} {m : Mx} {c e n : Int} {ll : List (List Int)} (ha : MatV S w va m) (h : echS m = (⟨c, ll⟩, e)) (hn : (ll.length : Int) = n) : Calls Try.prog 18 #[va] w (Post w fun _ r => r = .tuple #[.int .i64 n, .int .i64 e]) :=
  (rank_calls ha).mono fun _ _ h1 => h1.imp fun _ _ h1 => by rw [h1, h, hn]
theorem refRank_gen {S : Nat → Prop} {w : World} {va : Value} {m : Mx} {c e n : Int} {ll : List (List Int)} (ha : MatV S w va m) (h : echS m = (⟨c, ll⟩, e)) (hn : (ll.length : Int) = n) : Calls Try.prog 19 #[va] w (Post w fun _ r => r = .tuple #[.int .i64 n, .int .i64 e]) :=
  (refRank_calls ha).mono fun _ _ h1 => h1.imp fun _ _ h1 => by rw [h1, h, hn]
theorem ker_gen {S : Nat → Prop} {w : World} {va : Value} {m : Mx} {c e : Int} {ll : List (List Int)} (ha : MatV S w va m) (h : kerS m = (⟨c, ll⟩, e)) : Calls Try.prog 20 #[va] w (Post w (PMat c ll e)) :=
  (kernel_calls ha).mono fun _ _ h1 => h1.imp fun _ _ h1 => RetM.lit h1 h rfl
theorem refKer_gen {S : Nat → Prop} {w : World} {va : Value} {m : Mx} {c e : Int} {ll : List (List Int)} (ha : MatV S w va m) (h : kerS m = (⟨c, ll⟩, e)) : Calls Try.prog 21 #[va] w (Post w (PMat c ll e)) :=
  (refKernel_calls ha).mono fun _ _ h1 => h1.imp fun _ _ h1 => RetM.lit h1 h rfl
theorem transP_gen {S : Nat → Prop} {w : World} {va : Value} {m : Mx} {c e : Int} {ll : List (List Int)} (ha : MatV S w va m) (h : transS m = (⟨c, ll⟩, e)) : Calls Try.prog 37 #[va] w (Post w (PMat c ll e)) := trans_gen ha h
end Go.Proofs.Ytijmjliijjkcbaa
