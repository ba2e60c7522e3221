/- Contracts of the functions of package partition and of its reference that return lists. -/
import Derived.Test.YtnmbiibchajehaaRefCut
import Derived.Test.YtnmbiibchajehaaSame
namespace Go.Proofs.Ytnmbiibchajehaa
set_option linter.unusedVariables false
open Go.RowKit

/-- A list in new memory, and an error. -/
def RetL (B : Nat) (p : List Int × Int) (w' : World) (r : Value) : Prop := ∃ v, r = .tuple #[v, .int .i64 p.2] ∧ Ints (fun b => B ≤ b) w' v p.1
theorem RetL.nil (B : Nat) (w' : World) {e e' : Int} (h : e = e') {p : List Int × Int} (hp : p = ([], e')) : RetL B p w' (.tuple #[.slice none 0 0, .int .i64 e]) := by
  subst h hp; exact ⟨_, rfl, Ints.nil _ _⟩
theorem RetL.mk {B : Nat} {w' : World} {v : Value} {l : List Int} {p : List Int × Int} (h : Ints (fun b => B ≤ b) w' v l) (hp : p = (l, 0)) : RetL B p w' (.tuple #[v, .int .i64 0]) := by
  subst hp; exact ⟨_, rfl, h⟩

theorem checkS_small {l : List Int} (h : checkS l = 0) : l.length ≤ 65536 := by
  unfold checkS at h; split at h
  · omega
  · omega
theorem bothS_len {a b : List Int} (h : bothS a b = 0) : a.length = b.length ∧ a.length ≤ 65536 := by
  unfold bothS at h
  by_cases h1 : checkS a = 0
  · have := checkS_small h1
    simp only [h1, ne_eq, not_true_eq_false, if_false] at h
    by_cases h2 : checkS b = 0
    · simp only [h2, not_true_eq_false, if_false] at h
      by_cases h3 : a.length = b.length
      · exact ⟨h3, this⟩
      · simp [h3] at h
    · simp [h2] at h
  · simp [h1] at h

def ofS (l : List Int) : List Int × Int := if 65536 < l.length then ([], 5) else (labs l, 0)
def meetR (a b : List Int) : List Int × Int := if bothS a b = 0 then (meetS a b, 0) else ([], bothS a b)
def refineR (l keys : List Int) : List Int × Int := if checkS l = 0 then (if keys.length = l.length then (meetS l keys, 0) else ([], 15)) else ([], checkS l)

set_option maxRecDepth 100000 in
theorem of_calls {S : Nat → Prop} {w : World} {v : Value} {l : List Int} (h : Ints S w v l) :
    Calls Try.prog 25 #[v] w (Post w (RetL w.heap.size (ofS l))) := by
  have h0 := h
  obtain ⟨a, cap, rfl, _⟩ := h0
  go_enter Try.func25, Try.ntmps25
  by_cases hbig : 65536 < l.length
  · go_wp2_with fail
    go_ret2
    exact .same (.nil _ _ rfl (by simp [ofS, hbig]))
  · go_wp2_with fail
    refine (labelsInt_calls h (by omega)).mono ?_
    rintro _ w1 ⟨v, rfl, hb1, hv⟩
    go_wp2
    go_ret2
    exact .mk hb1 (.mk hv (by simp [ofS, hbig]))

set_option maxRecDepth 100000 in
theorem refOf_calls {S : Nat → Prop} {w : World} {v : Value} {l : List Int} (h : Ints S w v l) :
    Calls Try.prog 26 #[v] w (Post w (RetL w.heap.size (ofS l))) := by
  have h0 := h
  obtain ⟨a, cap, rfl, _⟩ := h0
  go_enter Try.func26, Try.ntmps26
  by_cases hbig : 65536 < l.length
  · go_wp2_with fail
    go_ret2
    exact .same (.nil _ _ rfl (by simp [ofS, hbig]))
  · go_wp2_with fail
    refine (refLabels_calls h (by omega)).mono ?_
    rintro _ w1 ⟨v, rfl, hb1, hv⟩
    go_wp2
    go_ret2
    exact .mk hb1 (.mk hv (by simp [ofS, hbig]))

set_option maxRecDepth 100000 in
theorem meetApi_calls {S S' : Nat → Prop} {w : World} {va vb : Value} {a b : List Int} (ha : Ints S w va a) (hb : Ints S' w vb b) :
    Calls Try.prog 16 #[va, vb] w (Post w (RetL w.heap.size (meetR a b))) := by
  go_enter Try.func16, Try.ntmps16
  go_wp2_with fail
  refine (both_calls ha hb).mono ?_
  rintro _ w1 ⟨_, rfl, hb1, rfl⟩
  by_cases h1 : bothS a b = 0
  · have e1 : (bothS a b != 0) = false := by simp [h1]
    have H1 := Lib.hid h1
    clear h1
    go_wp2_with fail
    refine (meet_calls (ha.ext hb1) (hb.ext hb1) (bothS_len H1.out).1 (bothS_len H1.out).2).mono ?_
    rintro _ w2 ⟨v, rfl, hb2, hv⟩
    go_wp2
    go_ret2
    exact .mk (ext_trans hb1 hb2) (.mk (hv.mono (by intro b hb'; have := hb1.size; omega)) (by simp [meetR, H1.out]))
  · have e1 : (bothS a b != 0) = true := by simp [h1]
    go_wp2_with fail
    go_ret2
    exact .mk hb1 (.nil _ _ rfl (by simp [meetR, h1]))

set_option maxRecDepth 100000 in
theorem refMeet_calls {S S' : Nat → Prop} {w : World} {va vb : Value} {a b : List Int} (ha : Ints S w va a) (hb : Ints S' w vb b) :
    Calls Try.prog 34 #[va, vb] w (Post w (RetL w.heap.size (meetR a b))) := by
  go_enter Try.func34, Try.ntmps34
  go_wp2_with fail
  refine (refBoth_calls ha hb).mono ?_
  rintro _ w1 ⟨_, rfl, hb1, rfl⟩
  by_cases h1 : bothS a b = 0
  · have e1 : (bothS a b != 0) = false := by simp [h1]
    have H1 := Lib.hid h1
    clear h1
    go_wp2_with fail
    refine (refCut_calls (ha.ext hb1) (hb.ext hb1) (bothS_len H1.out).1 (bothS_len H1.out).2).mono ?_
    rintro _ w2 ⟨v, rfl, hb2, hv⟩
    go_wp2
    go_ret2
    exact .mk (ext_trans hb1 hb2) (.mk (hv.mono (by intro b hb'; have := hb1.size; omega)) (by simp [meetR, H1.out]))
  · have e1 : (bothS a b != 0) = true := by simp [h1]
    go_wp2_with fail
    go_ret2
    exact .mk hb1 (.nil _ _ rfl (by simp [meetR, h1]))

set_option maxRecDepth 100000 in
theorem refine_calls {S S' : Nat → Prop} {w : World} {va vb : Value} {a b : List Int} (ha : Ints S w va a) (hb : Ints S' w vb b) :
    Calls Try.prog 30 #[va, vb] w (Post w (RetL w.heap.size (refineR a b))) := by
  have ha0 := ha
  have hb0 := hb
  obtain ⟨aa, capa, rfl, _⟩ := ha0
  obtain ⟨ab, capb, rfl, _⟩ := hb0
  go_enter Try.func30, Try.ntmps30
  go_wp2_with fail
  refine (check_calls ha).mono ?_
  rintro _ w1 ⟨_, rfl, hb1, rfl⟩
  by_cases h1 : checkS a = 0
  · have e1 : (checkS a != 0) = false := by simp [h1]
    have H1 := Lib.hid h1
    clear h1
    by_cases h2 : b.length = a.length
    · have e2 : ((b.length : Int) != a.length) = false := by simp [h2]
      have H2 := Lib.hid h2
      clear h2
      go_wp2_with fail
      refine (meet_calls (ha.ext hb1) (hb.ext hb1) H2.out.symm (checkS_small H1.out)).mono ?_
      rintro _ w2 ⟨v, rfl, hb2, hv⟩
      go_wp2
      go_ret2
      exact .mk (ext_trans hb1 hb2) (.mk (hv.mono (by intro b hb'; have := hb1.size; omega)) (by simp [refineR, H1.out, H2.out]))
    · have e2 : ((b.length : Int) != a.length) = true := by simp; omega
      go_wp2_with fail
      go_ret2
      exact .mk hb1 (.nil _ _ rfl (by simp [refineR, H1.out, h2]))
  · have e1 : (checkS a != 0) = true := by simp [h1]
    go_wp2_with fail
    go_ret2
    exact .mk hb1 (.nil _ _ rfl (by simp [refineR, h1]))

set_option maxRecDepth 100000 in
theorem refRefine_calls {S S' : Nat → Prop} {w : World} {va vb : Value} {a b : List Int} (ha : Ints S w va a) (hb : Ints S' w vb b) :
    Calls Try.prog 31 #[va, vb] w (Post w (RetL w.heap.size (refineR a b))) := by
  have ha0 := ha
  have hb0 := hb
  obtain ⟨aa, capa, rfl, _⟩ := ha0
  obtain ⟨ab, capb, rfl, _⟩ := hb0
  go_enter Try.func31, Try.ntmps31
  go_wp2_with fail
  refine (refCheck_calls ha).mono ?_
  rintro _ w1 ⟨_, rfl, hb1, rfl⟩
  by_cases h1 : checkS a = 0
  · have e1 : (checkS a != 0) = false := by simp [h1]
    have H1 := Lib.hid h1
    clear h1
    by_cases h2 : b.length = a.length
    · have e2 : ((b.length : Int) != a.length) = false := by simp [h2]
      have H2 := Lib.hid h2
      clear h2
      go_wp2_with fail
      refine (refCut_calls (ha.ext hb1) (hb.ext hb1) H2.out.symm (checkS_small H1.out)).mono ?_
      rintro _ w2 ⟨v, rfl, hb2, hv⟩
      go_wp2
      go_ret2
      exact .mk (ext_trans hb1 hb2) (.mk (hv.mono (by intro b hb'; have := hb1.size; omega)) (by simp [refineR, H1.out, H2.out]))
    · have e2 : ((b.length : Int) != a.length) = true := by simp; omega
      go_wp2_with fail
      go_ret2
      exact .mk hb1 (.nil _ _ rfl (by simp [refineR, H1.out, h2]))
  · have e1 : (checkS a != 0) = true := by simp [h1]
    go_wp2_with fail
    go_ret2
    exact .mk hb1 (.nil _ _ rfl (by simp [refineR, h1]))

end Go.Proofs.Ytnmbiibchajehaa
