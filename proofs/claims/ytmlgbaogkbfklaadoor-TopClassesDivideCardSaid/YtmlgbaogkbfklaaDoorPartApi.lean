/- Contracts of package partition. -/
import Derived.Test.YtmlgbaogkbfklaaDoorPart
import Derived.Test.YtmlgbaogkbfklaaDoorMeet
namespace Go.Proofs.YtmlgbaogkbfklaaDoor
set_option linter.unusedVariables false
open Go.RowKit

/-- A list in new memory, and an error. -/
def RetL (B : Nat) (p : List Int × Int) (w' : World) (r : Value) : Prop := ∃ v, r = .tuple #[v, .int .i64 p.2] ∧ Ints (fun b => B ≤ b) w' v p.1
theorem RetL.nil (B : Nat) (w' : World) {e e' : Int} (h : e = e') {p : List Int × Int} (hp : p = ([], e')) : RetL B p w' (.tuple #[.slice none 0 0, .int .i64 e]) := by
  subst h hp; exact ⟨_, rfl, Ints.nil _ _⟩
theorem RetL.mk {B : Nat} {w' : World} {v : Value} {l : List Int} {p : List Int × Int} (h : Ints (fun b => B ≤ b) w' v l) (hp : p = (l, 0)) : RetL B p w' (.tuple #[v, .int .i64 0]) := by
  subst hp; exact ⟨_, rfl, h⟩

theorem checkS_small {l : List Int} (h : checkS l = 0) : l.length ≤ 65536 := by
  unfold checkS at h; split at h
  · omega
  · omega
theorem bothS_len {a b : List Int} (h : bothS a b = 0) : a.length = b.length ∧ a.length ≤ 65536 := by
  unfold bothS at h
  by_cases h1 : checkS a = 0
  · have := checkS_small h1
    simp only [h1, ne_eq, not_true_eq_false, if_false] at h
    by_cases h2 : checkS b = 0
    · simp only [h2, not_true_eq_false, if_false] at h
      by_cases h3 : a.length = b.length
      · exact ⟨h3, this⟩
      · simp [h3] at h
    · simp [h2] at h
  · simp [h1] at h

def meetR (a b : List Int) : List Int × Int := if bothS a b = 0 then (meetS a b, 0) else ([], bothS a b)
set_option maxRecDepth 100000 in
theorem meetApi_calls {S S' : Nat → Prop} {w : World} {va vb : Value} {a b : List Int} (ha : Ints S w va a) (hb : Ints S' w vb b) :
    Calls Tryd.prog 20 #[va, vb] w (Post w (RetL w.heap.size (meetR a b))) := by
  go_enter Tryd.func20, Tryd.ntmps20
  go_wp2_with fail
  refine (both_calls ha hb).mono ?_
  rintro _ w1 ⟨_, rfl, hb1, rfl⟩
  by_cases h1 : bothS a b = 0
  · have e1 : (bothS a b != 0) = false := by simp [h1]
    have H1 := Lib.hid h1
    clear h1
    go_wp2_with fail
    refine (meet_calls (ha.ext hb1) (hb.ext hb1) (bothS_len H1.out).1 (bothS_len H1.out).2).mono ?_
    rintro _ w2 ⟨v, rfl, hb2, hv⟩
    go_wp2
    go_ret2
    exact .mk (ext_trans hb1 hb2) (.mk (hv.mono (by intro b hb'; have := hb1.size; omega)) (by simp [meetR, H1.out]))
  · have e1 : (bothS a b != 0) = true := by simp [h1]
    go_wp2_with fail
    go_ret2
    exact .mk hb1 (.nil _ _ rfl (by simp [meetR, h1]))

end Go.Proofs.YtmlgbaogkbfklaaDoor
