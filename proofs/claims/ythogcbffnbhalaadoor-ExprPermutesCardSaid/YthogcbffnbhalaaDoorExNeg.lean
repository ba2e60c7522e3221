/- Negation, binding and free variables, as plain data. -/
import Derived.Test.YthogcbffnbhalaaDoorExFold
namespace Go.Proofs.YthogcbffnbhalaaDoor
set_option linter.unusedVariables false

def dualOp (op : Int) : Int := if op = 10 then 11 else if op = 11 then 10 else if op = 13 then 14 else if op = 14 then 13 else -1
mutual
def negE : Ex → Ex
  | .node op num xs =>
    if op = 8 then twoE 9 (nthE xs 1) (nthE xs 0) else if op = 9 then twoE 8 (nthE xs 1) (nthE xs 0) else if op = 12 then nthE xs 0
    else if dualOp op < 0 then oneE 12 (.node op num xs) else .node (dualOp op) 0 (negL xs)
def negL : List Ex → List Ex
  | [] => []
  | e :: es => negE e :: negL es
end
theorem negL_map (l : List Ex) : negL l = l.map negE := by
  induction l with
  | nil => rfl
  | cons x l ih => simp only [negL, ih, List.map_cons]
theorem negL_length (l : List Ex) : (negL l).length = l.length := by rw [negL_map, List.length_map]
theorem neg_less (x y : Ex) : negE (twoE 8 x y) = twoE 9 y x := by simp [twoE, negE, nthE]
theorem neg_most (x y : Ex) : negE (twoE 9 x y) = twoE 8 y x := by simp [twoE, negE, nthE]
theorem neg_not (x : Ex) : negE (oneE 12 x) = x := by simp [oneE, negE, nthE]
theorem neg_and (x y : Ex) : negE (twoE 10 x y) = twoE 11 (negE x) (negE y) := by simp [twoE, negE, dualOp, negL]
theorem neg_or (x y : Ex) : negE (twoE 11 x y) = twoE 10 (negE x) (negE y) := by simp [twoE, negE, dualOp, negL]
theorem neg_all (x : Ex) : negE (oneE 13 x) = oneE 14 (negE x) := by simp [oneE, negE, dualOp, negL]
theorem neg_some (x : Ex) : negE (oneE 14 x) = oneE 13 (negE x) := by simp [oneE, negE, dualOp, negL]
theorem neg_hears (x y : Ex) : negE (twoE 4 x y) = oneE 12 (twoE 4 x y) := by simp [twoE, negE, dualOp]
theorem neg_equal (x y : Ex) : negE (twoE 7 x y) = oneE 12 (twoE 7 x y) := by simp [twoE, negE, dualOp]

/-- What a negation has to do with its condition. -/
structure Opp (vars : Int) (e x : Ex) : Prop where
  wf : Wf vars x
  kind : kindOf x.op = 1
  size : sizeE x ≤ 2 * sizeE e
  uses : usesE x = usesE e
  val : ∀ s, ScOk s → ∀ vs : List Int, (vs.length : Int) = vars → (∀ x ∈ vs, small x = true) → valE s x vs = 1 - valE s e vs

theorem Opp.not {vars : Int} {e : Ex} (h : Wf vars e) (hk : kindOf e.op = 1) : Opp vars e (oneE 12 e) :=
  ⟨.one (by unfold op1; omega) hk h, rfl, by rw [size_one]; have := sizeE_pos e; omega, by rw [uses_one]; show 0 ||| _ = _; simp, fun s _ vs _ _ => valE_not s e vs⟩
theorem own_zero {op : Int} (h : 5 ≤ op) : ownUse op = 0 := by unfold ownUse; rw [if_neg (by omega), if_neg (by omega), if_neg (by omega)]
theorem Opp.swap {vars : Int} {op op' : Int} {x y : Ex} (ho : (op = 8 ∧ op' = 9) ∨ (op = 9 ∧ op' = 8)) (hk : kindOf x.op = argKind op) (hk2 : kindOf y.op = argKind op) (hx : Wf vars x) (hy : Wf vars y) : Opp vars (twoE op x y) (twoE op' y x) := by
  have ha : argKind op' = argKind op := by rcases ho with ⟨rfl, rfl⟩ | ⟨rfl, rfl⟩ <;> rfl
  refine ⟨.two (by omega) (by omega) (hk2.trans ha.symm) (hk.trans ha.symm) hy hx, by rcases ho with ⟨rfl, rfl⟩ | ⟨rfl, rfl⟩ <;> rfl, by rw [size_two, size_two]; omega, ?_, ?_⟩
  · rw [uses_two, uses_two, own_zero (by omega), own_zero (by omega), Nat.or_comm (usesE y)]
  · intro s hs vs h1 h2
    rw [valE_two s (by omega) (by omega), valE_two s (by omega) (by omega)]
    rcases ho with ⟨rfl, rfl⟩ | ⟨rfl, rfl⟩
    · show flag (decide (valE s y vs ≤ valE s x vs)) = 1 - flag (decide (valE s x vs < valE s y vs))
      by_cases h : valE s x vs < valE s y vs
      · rw [decide_eq_true h, decide_eq_false (by omega)]; rfl
      · rw [decide_eq_false h, decide_eq_true (by omega)]; rfl
    · show flag (decide (valE s y vs < valE s x vs)) = 1 - flag (decide (valE s x vs ≤ valE s y vs))
      by_cases h : valE s x vs ≤ valE s y vs
      · rw [decide_eq_true h, decide_eq_false (by omega)]; rfl
      · rw [decide_eq_false h, decide_eq_true (by omega)]; rfl
theorem ones_opp (s : Sc) (h0 : 0 ≤ s.n) (f g : List Int → Int) (vs : List Int) (hf : ∀ p : Nat, (p : Int) < s.n → f (vs ++ [(p : Int)]) = 1 - g (vs ++ [(p : Int)])) : ones s f vs = s.n - ones s g vs := by
  unfold ones
  have key : ∀ m : Nat, (m : Int) ≤ s.n → ((List.range m).map fun p : Nat => f (vs ++ [(p : Int)])).sum = m - ((List.range m).map fun p : Nat => g (vs ++ [(p : Int)])).sum := by
    intro m
    induction m with
    | zero => simp
    | succ m ih =>
      intro hm
      rw [List.range_succ, List.map_append, List.sum_append, ih (by omega), List.map_append, List.sum_append]
      simp only [List.map_cons, List.map_nil, List.sum_cons, List.sum_nil]
      rw [hf m (by omega)]
      omega
  rw [key _ (by omega), Int.toNat_of_nonneg h0]
theorem Opp.dual1 {vars op op' : Int} {x y : Ex} (ho : (op = 13 ∧ op' = 14) ∨ (op = 14 ∧ op' = 13)) (h : Opp (vars + 1) x y) (hx : Wf (vars + 1) x) (hk : kindOf x.op = 1) : Opp vars (oneE op x) (oneE op' y) := by
  have hi : innerV op' vars = vars + 1 := by rcases ho with ⟨rfl, rfl⟩ | ⟨rfl, rfl⟩ <;> rfl
  refine ⟨.one (by unfold op1; omega) (by rw [h.kind]; rcases ho with ⟨rfl, rfl⟩ | ⟨rfl, rfl⟩ <;> rfl) (hi ▸ h.wf), by rcases ho with ⟨rfl, rfl⟩ | ⟨rfl, rfl⟩ <;> rfl, by rw [size_one, size_one]; have := h.size; omega, ?_, ?_⟩
  · rw [uses_one, uses_one, own_zero (by omega), own_zero (by omega), h.uses]
  · intro s hs vs h1 h2
    have h0 := hs.n0
    have hn : ones s (valE s y) vs = s.n - ones s (valE s x) vs := ones_opp s (by omega) _ _ _ fun p hp => h.val s hs _ (by simp [h1]) (snoc_ok hs hp h2)
    have hr : 0 ≤ ones s (valE s x) vs ∧ ones s (valE s x) vs ≤ s.n := ones_range s (by omega) _ _ fun p hp => (val_range hs hx _ (by simp [h1]) (snoc_ok hs hp h2)).2.2 hk
    rcases ho with ⟨rfl, rfl⟩ | ⟨rfl, rfl⟩
    · rw [valE_all, valE_some, hn]
      by_cases hc : ones s (valE s x) vs = s.n
      · rw [decide_eq_true hc, decide_eq_false (by omega)]; rfl
      · rw [decide_eq_false hc, decide_eq_true (by omega)]; rfl
    · rw [valE_all, valE_some, hn]
      by_cases hc : 0 < ones s (valE s x) vs
      · rw [decide_eq_true hc, decide_eq_false (by omega)]; rfl
      · rw [decide_eq_false hc, decide_eq_true (by omega)]; rfl
theorem Opp.dual2 {vars op op' : Int} {x y x' y' : Ex} (ho : (op = 10 ∧ op' = 11) ∨ (op = 11 ∧ op' = 10)) (h : Opp vars x x') (k : Opp vars y y') (hx : Wf vars x) (hy : Wf vars y) (hk : kindOf x.op = 1) (hk2 : kindOf y.op = 1) : Opp vars (twoE op x y) (twoE op' x' y') := by
  refine ⟨.two (by omega) (by omega) (by rw [h.kind]; rcases ho with ⟨rfl, rfl⟩ | ⟨rfl, rfl⟩ <;> rfl) (by rw [k.kind]; rcases ho with ⟨rfl, rfl⟩ | ⟨rfl, rfl⟩ <;> rfl) h.wf k.wf, by rcases ho with ⟨rfl, rfl⟩ | ⟨rfl, rfl⟩ <;> rfl, by rw [size_two, size_two]; have := h.size; have := k.size; omega, ?_, ?_⟩
  · rw [uses_two, uses_two, own_zero (by omega), own_zero (by omega), h.uses, k.uses]
  · intro s hs vs h1 h2
    rw [valE_two s (by omega) (by omega), valE_two s (by omega) (by omega), h.val s hs vs h1 h2, k.val s hs vs h1 h2]
    have a := (val_range hs hx vs h1 h2).2.2 hk
    have b := (val_range hs hy vs h1 h2).2.2 hk2
    rcases ho with ⟨rfl, rfl⟩ | ⟨rfl, rfl⟩
    · show flag (decide (0 < 1 - valE s x vs + (1 - valE s y vs))) = 1 - valE s x vs * valE s y vs
      rcases a with a | a <;> rcases b with b | b <;> rw [a, b] <;> rfl
    · show (1 - valE s x vs) * (1 - valE s y vs) = 1 - flag (decide (0 < valE s x vs + valE s y vs))
      rcases a with a | a <;> rcases b with b | b <;> rw [a, b] <;> rfl
theorem Opp.neg {vars : Int} {e : Ex} (h : Wf vars e) : kindOf e.op = 1 → Opp vars e (negE e) := by
  induction h using Wf.rec4 with
  | hn vars n h => intro hk; simp [numE, Ex.op, kindOf] at hk
  | hv vars n h h1 => intro hk; simp [varE, Ex.op, kindOf] at hk
  | h1 vars op x ho hk hx ih =>
    intro hK
    rcases ho with rfl | rfl | rfl | rfl | rfl | rfl
    · simp [oneE, Ex.op, kindOf] at hK
    · simp [oneE, Ex.op, kindOf] at hK
    · rw [neg_not]
      have hi : innerV 12 vars = vars := rfl
      rw [hi] at hx
      refine ⟨hx, hk.trans rfl, by rw [size_one]; omega, by rw [uses_one]; show _ = 0 ||| _; simp, fun s _ vs _ _ => by rw [valE_not]; omega⟩
    · rw [neg_all]; exact .dual1 (.inl ⟨rfl, rfl⟩) (ih (hk.trans rfl)) hx (hk.trans rfl)
    · rw [neg_some]; exact .dual1 (.inr ⟨rfl, rfl⟩) (ih (hk.trans rfl)) hx (hk.trans rfl)
    · simp [oneE, Ex.op, kindOf] at hK
  | h2 vars op x y h4 h11 hk hk2 hx hy ih ih2 =>
    intro hK
    have hw : Wf vars (twoE op x y) := .two h4 h11 hk hk2 hx hy
    have : op = 4 ∨ op = 5 ∨ op = 6 ∨ op = 7 ∨ op = 8 ∨ op = 9 ∨ op = 10 ∨ op = 11 := by omega
    rcases this with rfl | rfl | rfl | rfl | rfl | rfl | rfl | rfl
    · rw [neg_hears]; exact .not hw rfl
    · simp [twoE, Ex.op, kindOf] at hK
    · simp [twoE, Ex.op, kindOf] at hK
    · rw [neg_equal]; exact .not hw rfl
    · rw [neg_less]; exact .swap (.inl ⟨rfl, rfl⟩) hk hk2 hx hy
    · rw [neg_most]; exact .swap (.inr ⟨rfl, rfl⟩) hk hk2 hx hy
    · rw [neg_and]; exact .dual2 (.inl ⟨rfl, rfl⟩) (ih (hk.trans rfl)) (ih2 (hk2.trans rfl)) hx hy (hk.trans rfl) (hk2.trans rfl)
    · rw [neg_or]; exact .dual2 (.inr ⟨rfl, rfl⟩) (ih (hk.trans rfl)) (ih2 (hk2.trans rfl)) hx hy (hk.trans rfl) (hk2.trans rfl)

mutual
def boundE (value : Int) : Ex → Ex
  | .node op num xs => if op = 1 then (if num = 0 then numE value else varE (num - 1)) else .node op num (boundL value xs)
def boundL (value : Int) : List Ex → List Ex
  | [] => []
  | e :: es => boundE value e :: boundL value es
end
theorem boundL_map (value : Int) (l : List Ex) : boundL value l = l.map (boundE value) := by
  induction l with
  | nil => rfl
  | cons x l ih => simp only [boundL, ih, List.map_cons]
mutual
def mentE (v : Int) : Ex → Bool
  | .node op num xs => (decide (op = 1) && decide (num = v)) || mentL v xs
def mentL (v : Int) : List Ex → Bool
  | [] => false
  | e :: es => mentE v e || mentL v es
end
mutual
def varsE (vars : Int) : Ex → List Int
  | .node op num xs => varsL vars xs ++ (if op = 1 ∧ num < vars then [num] else [])
def varsL (vars : Int) : List Ex → List Int
  | [] => []
  | e :: es => varsE vars e ++ varsL vars es
end
def freeE (e : Ex) (vars : Int) : List Int := ((List.range vars.toNat).filter fun v : Nat => mentE (v : Int) e).map fun v : Nat => (v : Int)

theorem mentL_any (v : Int) (l : List Ex) : mentL v l = l.any (mentE v) := by
  induction l with
  | nil => rfl
  | cons x l ih => simp only [mentL, ih, List.any_cons]
theorem varsL_flat (vars : Int) (l : List Ex) : varsL vars l = l.flatMap (varsE vars) := by
  induction l with
  | nil => rfl
  | cons x l ih => simp only [varsL, ih, List.flatMap_cons]
theorem mem_varsE {vars v : Int} (e : Ex) : v ∈ varsE vars e ↔ mentE v e = true ∧ v < vars := by
  induction e using Ex.ind with
  | h op num xs ih =>
    rw [varsE, mentE, varsL_flat, mentL_any]
    simp only [List.mem_append, List.mem_flatMap, Bool.or_eq_true, List.any_eq_true, Bool.and_eq_true, decide_eq_true_eq]
    constructor
    · rintro (⟨x, hx, hv⟩ | hv)
      · have := (ih x hx).1 hv
        exact ⟨.inr ⟨x, hx, this.1⟩, this.2⟩
      · split at hv
        · rename_i h
          obtain rfl : v = num := by simpa using hv
          exact ⟨.inl ⟨h.1, rfl⟩, h.2⟩
        · simp at hv
    · rintro ⟨⟨h, rfl⟩ | ⟨x, hx, hv⟩, hl⟩
      · exact .inr (by rw [if_pos ⟨h, hl⟩]; simp)
      · exact .inl ⟨x, hx, (ih x hx).2 ⟨hv, hl⟩⟩
theorem mem_freeE {vars v : Int} (e : Ex) : v ∈ freeE e vars ↔ 0 ≤ v ∧ v < vars ∧ mentE v e = true := by
  unfold freeE
  simp only [List.mem_map, List.mem_filter, List.mem_range]
  constructor
  · rintro ⟨n, ⟨h1, h2⟩, rfl⟩
    exact ⟨by omega, by omega, h2⟩
  · rintro ⟨h0, h1, h2⟩
    refine ⟨v.toNat, ⟨by omega, ?_⟩, by omega⟩
    rw [Int.toNat_of_nonneg h0]; exact h2
theorem freeE_lt (e : Ex) (vars : Int) : (freeE e vars).Pairwise (· < ·) := by
  unfold freeE
  rw [List.pairwise_map]
  refine (List.Pairwise.filter _ List.pairwise_lt_range).imp ?_
  intro a b h
  omega
/-- Of ordered lists without repetition with the same elements there is one. -/
theorem eq_of_sorted {l m : List Int} (hl : l.Pairwise (· < ·)) (hm : m.Pairwise (· < ·)) (h : ∀ x, x ∈ l ↔ x ∈ m) : l = m := by
  induction l generalizing m with
  | nil =>
    cases m with
    | nil => rfl
    | cons y m => exact absurd ((h y).2 (by simp)) (by simp)
  | cons x l ih =>
    cases m with
    | nil => exact absurd ((h x).1 (by simp)) (by simp)
    | cons y m =>
      rw [List.pairwise_cons] at hl hm
      have hxy : x = y := by
        have h1 := (h x).1 (by simp)
        have h2 := (h y).2 (by simp)
        rcases List.mem_cons.1 h1 with h1 | h1
        · exact h1
        · rcases List.mem_cons.1 h2 with h2 | h2
          · exact h2.symm
          · have := hl.1 y h2; have := hm.1 x h1; omega
      subst hxy
      rw [ih hl.2 hm.2]
      intro z
      constructor
      · intro hz
        rcases List.mem_cons.1 ((h z).1 (by simp [hz])) with rfl | hz'
        · have := hl.1 z hz; omega
        · exact hz'
      · intro hz
        rcases List.mem_cons.1 ((h z).2 (by simp [hz])) with rfl | hz'
        · have := hm.1 z hz; omega
        · exact hz'
theorem Wf.ment_nonneg {vars : Int} {e : Ex} (h : Wf vars e) (v : Int) (hm : mentE v e = true) : 0 ≤ v := by
  induction h with
  | mk h0 hl hv hc hz hk hx ih =>
    rename_i vars op num xs
    rw [mentE, mentL_any] at hm
    simp only [Bool.or_eq_true, List.any_eq_true, Bool.and_eq_true, decide_eq_true_eq] at hm
    rcases hm with ⟨h, rfl⟩ | ⟨x, hx, hm⟩
    · exact (hv h).1
    · exact ih x hx hm
end Go.Proofs.YthogcbffnbhalaaDoor

