/- What an expression does not use does not matter: plain data. -/
import Derived.Test.YtifkkajgcekafaaDoorExNeg
import Derived.Test.YtifkkajgcekafaaDoorExEval
namespace Go.Proofs.YtifkkajgcekafaaDoor
set_option linter.unusedVariables false

theorem testBit_or_left {a b i : Nat} (h : a.testBit i = true) : (a ||| b).testBit i = true := by rw [Nat.testBit_or, h, Bool.true_or]
theorem testBit_or_right {a b i : Nat} (h : b.testBit i = true) : (a ||| b).testBit i = true := by rw [Nat.testBit_or, h, Bool.or_true]
theorem ment_one {v op : Int} {x : Ex} (h : op ≠ 1) : mentE v (oneE op x) = mentE v x := by simp [oneE, mentE, mentL, h]
theorem ment_two {v op : Int} {x y : Ex} (h : op ≠ 1) : mentE v (twoE op x y) = (mentE v x || mentE v y) := by simp [twoE, mentE, mentL, h]
theorem nth_snoc_lt {l : List Int} {y : Int} {j : Nat} (h : j < l.length) : nth (l ++ [y]) j = nth l j := by simp [nth, List.getElem?_append_left h]
theorem nth_snoc_eq {l : List Int} {y : Int} : nth (l ++ [y]) l.length = y := by simp [nth]

theorem val_ignores {s s' : Sc} (hn : s'.n = s.n) {vars : Int} {e : Ex} (h : Wf vars e) (hi : (usesE e).testBit 0 = true → s'.inl = s.inl) (ho : (usesE e).testBit 1 = true → s'.outl = s.outl) (hh : (usesE e).testBit 2 = true → s'.hears = s.hears) :
    ∀ vs vs' : List Int, (vs.length : Int) = vars → (vs'.length : Int) = vars → (∀ v : Nat, (v : Int) < vars → mentE v e = true → nth vs' v = nth vs v) → valE s' e vs' = valE s e vs := by
  induction h using Wf.rec4 with
  | hn vars n h => intro vs vs' _ _ _; rw [valE_num, valE_num]
  | hv vars n h h1 =>
    intro vs vs' _ _ hm
    rw [valE_var, valE_var]
    refine hm n.toNat (by omega) ?_
    simp [varE, mentE, mentL]; omega
  | h1 vars op x hop hk hx ih =>
    intro vs vs' h1 h2 hm
    have hu := uses_one op x
    have hop1 : op ≠ 1 := by unfold op1 at hop; omega
    have ih := ih (fun h => hi (by rw [hu]; exact testBit_or_right h)) (fun h => ho (by rw [hu]; exact testBit_or_right h)) (fun h => hh (by rw [hu]; exact testBit_or_right h))
    have hin : op = 2 ∨ op = 3 ∨ op = 12 → valE s' x vs' = valE s x vs := by
      intro h
      have hv : innerV op vars = vars := by unfold innerV quant; rw [if_neg (by rcases h with rfl | rfl | rfl <;> simp)]
      rw [hv] at ih
      exact ih vs vs' h1 h2 fun v hv hmv => hm v hv (by rw [ment_one hop1]; exact hmv)
    have hq : op = 13 ∨ op = 14 ∨ op = 15 → ones s' (valE s' x) vs' = ones s (valE s x) vs := by
      intro h
      have hv : innerV op vars = vars + 1 := by unfold innerV quant; rw [if_pos (by rcases h with rfl | rfl | rfl <;> simp)]
      rw [hv] at ih
      unfold ones
      rw [hn, List.map_congr_left]
      intro p hp
      refine ih _ _ (by simp; omega) (by simp; omega) fun v hv hmv => ?_
      rcases Nat.lt_or_ge v vs.length with hlt | hge
      · rw [nth_snoc_lt hlt, nth_snoc_lt (by omega)]
        exact hm v (by omega) (by rw [ment_one hop1]; exact hmv)
      · obtain rfl : v = vs.length := by omega
        rw [nth_snoc_eq, show vs.length = vs'.length by omega, nth_snoc_eq]
    rcases hop with rfl | rfl | rfl | rfl | rfl | rfl
    · rw [valE_in, valE_in, hin (by simp), hn, hi (by rw [hu]; exact testBit_or_left rfl)]
    · rw [valE_out, valE_out, hin (by simp), hn, ho (by rw [hu]; exact testBit_or_left rfl)]
    · rw [valE_not, valE_not, hin (by simp)]
    · rw [valE_all, valE_all, hq (by simp), hn]
    · rw [valE_some, valE_some, hq (by simp)]
    · rw [valE_count, valE_count, hq (by simp)]
  | h2 vars op x y h4 h11 hk hk2 hx hy ih ih2 =>
    intro vs vs' h1 h2 hm
    have hu := uses_two op x y
    have hop1 : op ≠ 1 := by omega
    have e1 := ih (fun h => hi (by rw [hu]; exact testBit_or_right (testBit_or_left h))) (fun h => ho (by rw [hu]; exact testBit_or_right (testBit_or_left h))) (fun h => hh (by rw [hu]; exact testBit_or_right (testBit_or_left h))) vs vs' h1 h2 fun v hv hmv => hm v hv (by rw [ment_two hop1, hmv, Bool.true_or])
    have e2 := ih2 (fun h => hi (by rw [hu]; exact testBit_or_right (testBit_or_right h))) (fun h => ho (by rw [hu]; exact testBit_or_right (testBit_or_right h))) (fun h => hh (by rw [hu]; exact testBit_or_right (testBit_or_right h))) vs vs' h1 h2 fun v hv hmv => hm v hv (by rw [ment_two hop1, hmv, Bool.or_true])
    rw [valE_two s' h4 h11, valE_two s h4 h11, e1, e2]
    by_cases h4' : op = 4
    · subst h4'
      have := hh (by rw [hu]; exact testBit_or_left rfl)
      simp only [twoV, ↓reduceIte, hearsV, hn, this]
    · unfold twoV; rw [if_neg h4', if_neg h4']

/-- The values of some variables, zeros elsewhere. -/
def setAll (vs : List Int) (l : List Int) : List Int := l.foldl (fun acc x => acc.set x.toNat (nth vs x.toNat)) (List.replicate vs.length 0)
theorem setAll_snoc (vs l : List Int) (x : Int) : setAll vs (l ++ [x]) = (setAll vs l).set x.toNat (nth vs x.toNat) := by unfold setAll; rw [List.foldl_append]; rfl
theorem setAll_length (vs l : List Int) : (setAll vs l).length = vs.length := by
  unfold setAll
  suffices h : ∀ acc : List Int, (l.foldl (fun acc x => acc.set x.toNat (nth vs x.toNat)) acc).length = acc.length by rw [h]; simp
  induction l with
  | nil => intro acc; rfl
  | cons x l ih => intro acc; rw [List.foldl_cons, ih]; simp
theorem setAll_nth (vs l : List Int) (j : Nat) (hj : j < vs.length) : nth (setAll vs l) j = nth vs j ∨ (nth (setAll vs l) j = 0 ∧ (j : Int) ∉ l) := by
  suffices h : ∀ l : List Int, nth (setAll vs l.reverse) j = nth vs j ∨ (nth (setAll vs l.reverse) j = 0 ∧ (j : Int) ∉ l.reverse) by
    have := h l.reverse
    rwa [List.reverse_reverse] at this
  intro l
  induction l with
  | nil => exact .inr ⟨by simp [setAll, nth, List.getElem?_replicate, hj], by simp⟩
  | cons x l ih =>
    rw [List.reverse_cons, setAll_snoc]
    have hl := setAll_length vs l.reverse
    by_cases hx : x.toNat = j
    · left
      subst hx
      simp [nth, List.getElem?_set, hl, hj]
    · have e : nth ((setAll vs l.reverse).set x.toNat (nth vs x.toNat)) j = nth (setAll vs l.reverse) j := by simp [nth, List.getElem?_set, hx]
      rw [e]
      rcases ih with ih | ⟨ih, ih2⟩
      · exact .inl ih
      · refine .inr ⟨ih, fun hm => ?_⟩
        rcases List.mem_append.1 hm with hm | hm
        · exact ih2 hm
        · have := List.mem_singleton.1 hm; omega
theorem setAll_small (vs l : List Int) (h : ∀ x ∈ vs, small x = true) : ∀ x ∈ setAll vs l, small x = true := by
  intro x hx
  obtain ⟨j, hj, rfl⟩ := List.getElem_of_mem hx
  have hj' : j < vs.length := by rw [setAll_length] at hj; exact hj
  rw [← nth_eq hj]
  rcases setAll_nth vs l j hj' with e | ⟨e, _⟩
  · rw [e]; exact h _ (nth_mem hj')
  · rw [e]; rfl

def freeR0 (e : Ex) (vars : Int) : List Int × Int := if checkE e vars ≠ 0 then ([], checkE e vars) else (freeE e vars, 0)
def otherS (s t : Sc) (e : Ex) : Sc where
  n := s.n
  inl := if (usesE e).testBit 0 then s.inl else [1, 0, 2]
  outl := if (usesE e).testBit 1 then s.outl else [2, 1]
  hears := if (usesE e).testBit 2 then s.hears else t.hears
  vars := setAll s.vars (freeE e s.vars.length)

theorem rangedB_of {l : List Int} (h : ∀ x ∈ l, small x = true) : rangedB l = true := by simpa [rangedB] using h
theorem ignores_fact {s t : Sc} {e : Ex} (hw : Wf s.vars.length e) (hc : checkE e s.vars.length = 0) (hb : scBad s = false) :
    ∃ N : Int, evalE s e = (N, 0) ∧ evalE (otherS s t e) e = (N, 0) ∧ freeR0 e s.vars.length = (freeE e s.vars.length, 0) := by
  have hl : (otherS s t e).vars.length = s.vars.length := setAll_length _ _
  unfold scBad at hb
  simp only [Bool.or_eq_false_iff, decide_eq_false_iff_not, Bool.not_eq_false'] at hb
  obtain ⟨⟨⟨⟨h1, h2⟩, h3⟩, h4⟩, h5⟩ := hb
  have hv := ranged_mem h5
  have hb2 : scBad (otherS s t e) = false := by
    unfold scBad
    have e1 : rangedB (otherS s t e).inl = true := by
      show rangedB (if (usesE e).testBit 0 then s.inl else [1, 0, 2]) = true
      split
      · exact h3
      · rfl
    have e2 : rangedB (otherS s t e).outl = true := by
      show rangedB (if (usesE e).testBit 1 then s.outl else [2, 1]) = true
      split
      · exact h4
      · rfl
    have e3 : rangedB (otherS s t e).vars = true := rangedB_of (setAll_small _ _ hv)
    rw [e1, e2, e3]
    show (decide (s.n < 1) || decide (5 < s.n) || !true || !true || !true) = false
    rw [decide_eq_false h1, decide_eq_false h2]; rfl
  refine ⟨valE s e s.vars, ?_, ?_, ?_⟩
  · unfold evalE; rw [if_neg (by simp [hc]), if_neg (by unfold scBad; rw [decide_eq_false h1, decide_eq_false h2, h3, h4, h5]; simp)]
  · unfold evalE
    rw [hl, if_neg (by simp [hc]), if_neg (by simp [hb2])]
    rw [val_ignores (s := s) (s' := otherS s t e) rfl hw (fun h => if_pos h) (fun h => if_pos h) (fun h => if_pos h) s.vars _ rfl (by rw [hl])]
    intro v hv hm
    rcases setAll_nth s.vars (freeE e s.vars.length) v (by omega) with e1 | ⟨_, e2⟩
    · exact e1
    · exact absurd ((mem_freeE e).2 ⟨by omega, hv, hm⟩) e2
  · unfold freeR0; rw [if_neg (by simp [hc])]
end Go.Proofs.YtifkkajgcekafaaDoor
