/- Well-formed expressions, and the bounds of their values. -/
import Derived.Test.YthogcbffnbhalaaDoorExMath
namespace Go.Proofs.YthogcbffnbhalaaDoor
set_option linter.unusedVariables false

/-- An expression without an error, in which vars variables may be used. -/
inductive Wf : Int → Ex → Prop where
  | mk {vars op num : Int} {xs : List Ex} (h0 : 0 ≤ arity op) (hl : (xs.length : Int) = arity op) (hv : op = 1 → 0 ≤ num ∧ num < vars) (hc : op = 0 → small num = true) (hz : 1 < op → num = 0)
      (hk : ∀ x ∈ xs, kindOf x.op = argKind op) (hx : ∀ x ∈ xs, Wf (innerV op vars) x) : Wf vars (.node op num xs)

theorem nodeErr_node (op num vars : Int) (xs : List Ex) : nodeErr (.node op num xs) vars = if arity op < 0 then 1
  else if (xs.length : Int) ≠ arity op then 15
  else if op = 1 ∧ (num < 0 ∨ vars ≤ num) then 10
  else if op = 0 ∧ small num = false then 2
  else if 1 < op ∧ num ≠ 0 then 3
  else if xs.any (misfit op) then 9 else 0 := rfl
theorem nodeErr_zero {op num vars : Int} {xs : List Ex} (h : nodeErr (.node op num xs) vars = 0) :
    0 ≤ arity op ∧ (xs.length : Int) = arity op ∧ (op = 1 → 0 ≤ num ∧ num < vars) ∧ (op = 0 → small num = true) ∧ (1 < op → num = 0) ∧ ∀ x ∈ xs, misfit op x = false := by
  rw [nodeErr_node] at h
  split at h
  · omega
  split at h
  · omega
  split at h
  · omega
  split at h
  · omega
  split at h
  · omega
  split at h
  · omega
  rename_i h1 h2 h3 h4 h5 h6
  refine ⟨by omega, by omega, fun h => by omega, fun h => ?_, fun h => by omega, fun x hx => ?_⟩
  · cases hs : small num with
    | true => rfl
    | false => exact absurd ⟨h, hs⟩ h4
  · cases hm : misfit op x with
    | false => rfl
    | true => exact absurd (List.any_eq_true.2 ⟨x, hx, hm⟩) h6
theorem nodesErrL_zero {xs : List Ex} {vars : Int} (h : nodesErrL xs vars = 0) : ∀ x ∈ xs, nodesErr x vars = 0 := by
  induction xs with
  | nil => simp
  | cons y ys ih =>
    simp only [nodesErrL] at h
    split at h
    · contradiction
    · rename_i h1
      intro x hx
      rcases List.mem_cons.1 hx with rfl | hx
      · omega
      · exact ih h x hx
theorem nodesErrL_of {xs : List Ex} {vars : Int} (h : ∀ x ∈ xs, nodesErr x vars = 0) : nodesErrL xs vars = 0 := by
  induction xs with
  | nil => simp [nodesErrL]
  | cons y ys ih =>
    simp only [nodesErrL]
    rw [if_neg (by simp [h y (by simp)]), ih fun x hx => h x (by simp [hx])]
theorem sizeE_mem {xs : List Ex} {x : Ex} (h : x ∈ xs) : sizeE x ≤ sizeL xs := by
  induction xs with
  | nil => simp at h
  | cons y ys ih =>
    simp only [sizeL]
    rcases List.mem_cons.1 h with rfl | h
    · omega
    · have := ih h; omega
/-- Induction on expressions. -/
theorem Ex.ind {P : Ex → Prop} (h : ∀ op num xs, (∀ x ∈ xs, P x) → P (.node op num xs)) : ∀ e, P e := by
  have key : ∀ n : Nat, ∀ e : Ex, sizeE e ≤ n → P e := by
    intro n
    induction n with
    | zero => intro e he; have := sizeE_pos e; omega
    | succ n ih =>
      intro e he
      cases e with
      | node op num xs =>
        simp only [sizeE] at he
        exact h op num xs fun x hx => ih x (by have := sizeE_mem hx; omega)
  exact fun e => key _ e (Nat.le_refl _)
theorem Wf.of_err : ∀ (e : Ex) (vars : Int), nodesErr e vars = 0 → Wf vars e := by
  intro e
  induction e using Ex.ind with
  | h op num xs ih =>
    intro vars h
    simp only [nodesErr] at h
    split at h
    · contradiction
    · rename_i h1
      obtain ⟨a, b, c, d, e, f⟩ := nodeErr_zero (op := op) (num := num) (xs := xs) (vars := vars) (by omega)
      have hx : ∀ x ∈ xs, Wf (innerV op vars) x := fun x hx => ih x hx _ (nodesErrL_zero h x hx)
      refine .mk a b c d e (fun x hx' => ?_) hx
      have h2 := f x hx'
      have h3 : 0 ≤ arity x.op := by
        have := hx x hx'
        cases this with
        | mk h0 => exact h0
      unfold misfit at h2
      simpa [h3] using h2
theorem Wf.err {vars : Int} {e : Ex} (h : Wf vars e) : nodesErr e vars = 0 := by
  induction h with
  | mk h0 hl hv hc hz hk hx ih =>
    rename_i vars op num xs
    have : nodeErr (.node op num xs) vars = 0 := by
      rw [nodeErr_node, if_neg (by omega), if_neg (by omega), if_neg (fun h => by have := hv h.1; omega), if_neg (fun h => by rw [hc h.1] at h; simp at h), if_neg (fun h => h.2 (hz h.1)), if_neg]
      simp only [List.any_eq_true, not_exists, not_and, Bool.not_eq_true]
      intro x hx'
      unfold misfit
      simp [hk x hx']
    simp only [nodesErr]
    rw [if_neg (by omega)]
    exact nodesErrL_of ih
theorem Wf.of_check {e : Ex} {vars : Int} (h : checkE e vars = 0) : Wf vars e ∧ 0 ≤ vars ∧ vars ≤ 24 ∧ sizeE e ≤ 128 ∧ depthE e ≤ 24 := by
  unfold checkE at h
  split at h
  · omega
  split at h
  · omega
  split at h
  · omega
  exact ⟨.of_err _ _ h, by omega, by omega, by omega, by omega⟩
theorem Wf.check {e : Ex} {vars : Int} (h : Wf vars e) (h0 : 0 ≤ vars) (h1 : vars ≤ 24) (h2 : sizeE e ≤ 128) (h3 : depthE e ≤ 24) : checkE e vars = 0 := by
  unfold checkE
  rw [if_neg (by omega), if_neg (by omega), if_neg (by omega)]
  exact h.err

def numE (n : Int) : Ex := .node 0 n []
def varE (n : Int) : Ex := .node 1 n []
def oneE (op : Int) (x : Ex) : Ex := .node op 0 [x]
def twoE (op : Int) (x y : Ex) : Ex := .node op 0 [x, y]
def flagE (b : Bool) : Ex := twoE (if b then 7 else 8) (numE 0) (numE 0)
def op1 (op : Int) : Prop := op = 2 ∨ op = 3 ∨ op = 12 ∨ op = 13 ∨ op = 14 ∨ op = 15

theorem op_one {op : Int} (h : arity op = 1) : op1 op := by
  unfold arity at h
  unfold op1
  split at h
  · omega
  split at h
  · omega
  split at h
  · omega
  · omega
theorem op_two {op : Int} (h : arity op = 2) : 4 ≤ op ∧ op ≤ 11 := by
  unfold arity at h
  split at h
  · omega
  split at h
  · omega
  split at h
  · omega
  · omega
theorem op_zero {op : Int} (h : arity op = 0) : op = 0 ∨ op = 1 := by
  unfold arity at h
  split at h
  · omega
  split at h
  · omega
  split at h
  · omega
  · omega
theorem arity_le (op : Int) : arity op ≤ 2 := by unfold arity; split <;> (try split) <;> (try split) <;> omega

/-- The forms of a well-formed expression. -/
theorem Wf.forms {vars : Int} {e : Ex} (h : Wf vars e) :
    (∃ n, e = numE n ∧ small n = true) ∨ (∃ n, e = varE n ∧ 0 ≤ n ∧ n < vars) ∨ (∃ op x, e = oneE op x ∧ op1 op ∧ kindOf x.op = argKind op ∧ Wf (innerV op vars) x) ∨
      ∃ op x y, e = twoE op x y ∧ 4 ≤ op ∧ op ≤ 11 ∧ kindOf x.op = argKind op ∧ kindOf y.op = argKind op ∧ Wf vars x ∧ Wf vars y := by
  cases h with
  | mk h0 hl hv hc hz hk hx =>
    rename_i op num xs
    have := arity_le op
    match xs, hl, hk, hx with
    | [], hl, hk, hx =>
      rcases op_zero (by simpa using hl.symm) with rfl | rfl
      · exact .inl ⟨num, rfl, hc rfl⟩
      · exact .inr (.inl ⟨num, rfl, hv rfl⟩)
    | [x], hl, hk, hx =>
      have ho := op_one (by simpa using hl.symm)
      obtain rfl : num = 0 := hz (by unfold op1 at ho; omega)
      exact .inr (.inr (.inl ⟨op, x, rfl, ho, hk x (by simp), hx x (by simp)⟩))
    | [x, y], hl, hk, hx =>
      have ho := op_two (by simpa using hl.symm)
      obtain rfl : num = 0 := hz (by omega)
      have hi : innerV op vars = vars := by unfold innerV quant; rw [if_neg (by simp; omega)]
      rw [hi] at hx
      exact .inr (.inr (.inr ⟨op, x, y, rfl, ho.1, ho.2, hk x (by simp), hk y (by simp), hx x (by simp), hx y (by simp)⟩))
    | _ :: _ :: _ :: _, hl, hk, hx => simp at hl; omega

theorem arity_one {op : Int} (h : op1 op) : arity op = 1 := by unfold op1 at h; rcases h with rfl | rfl | rfl | rfl | rfl | rfl <;> rfl
theorem arity_two {op : Int} (h : 4 ≤ op) (h1 : op ≤ 11) : arity op = 2 := by unfold arity; rw [if_neg (by omega), if_neg (by omega), if_neg (by omega)]
theorem Wf.num {vars n : Int} (h : small n = true) : Wf vars (numE n) := .mk (by decide) (by simp [arity]) (by simp) (fun _ => h) (by simp) (by simp) (by simp)
theorem Wf.var {vars n : Int} (h : 0 ≤ n) (h1 : n < vars) : Wf vars (varE n) := .mk (by decide) (by simp [arity]) (fun _ => ⟨h, h1⟩) (by simp) (by simp) (by simp) (by simp)
theorem Wf.one {vars op : Int} {x : Ex} (ho : op1 op) (hk : kindOf x.op = argKind op) (hx : Wf (innerV op vars) x) : Wf vars (oneE op x) :=
  .mk (by rw [arity_one ho]; decide) (by rw [arity_one ho]; rfl) (by unfold op1 at ho; omega) (by unfold op1 at ho; omega) (by simp) (by simp [hk]) (by simp [hx])
theorem Wf.two {vars op : Int} {x y : Ex} (h : 4 ≤ op) (h1 : op ≤ 11) (hk : kindOf x.op = argKind op) (hk2 : kindOf y.op = argKind op) (hx : Wf vars x) (hy : Wf vars y) : Wf vars (twoE op x y) := by
  have hi : innerV op vars = vars := by unfold innerV quant; rw [if_neg (by simp; omega)]
  exact .mk (by rw [arity_two h h1]; decide) (by rw [arity_two h h1]; rfl) (by omega) (by omega) (by simp) (by simp [hk, hk2]) (by rw [hi]; simp [hx, hy])
/-- Induction on well-formed expressions, by their forms. -/
theorem Wf.rec4 {P : (vars : Int) → (e : Ex) → Wf vars e → Prop} (hn : ∀ vars n (h : small n = true), P vars (numE n) (.num h)) (hv : ∀ vars n (h : 0 ≤ n) (h1 : n < vars), P vars (varE n) (.var h h1))
    (h1 : ∀ vars op x (ho : op1 op) (hk : kindOf x.op = argKind op) (hx : Wf (innerV op vars) x), P (innerV op vars) x hx → P vars (oneE op x) (.one ho hk hx))
    (h2 : ∀ vars op x y (h4 : 4 ≤ op) (h11 : op ≤ 11) (hk : kindOf x.op = argKind op) (hk2 : kindOf y.op = argKind op) (hx : Wf vars x) (hy : Wf vars y), P vars x hx → P vars y hy → P vars (twoE op x y) (.two h4 h11 hk hk2 hx hy)) :
    ∀ {vars : Int} {e : Ex} (h : Wf vars e), P vars e h := by
  intro vars e
  induction e using Ex.ind generalizing vars with
  | h op num xs ih =>
    intro h
    suffices hs : ∀ e, e = Ex.node op num xs → ∀ h : Wf vars e, P vars e h from hs _ rfl h
    intro e hE h
    rcases h.forms with ⟨n, he, hs⟩ | ⟨n, he, ha, hb⟩ | ⟨op', x, he, ho, hk, hx⟩ | ⟨op', x, y, he, ha, hb, hk, hk2, hx, hy⟩
    · subst he; exact hn _ _ hs
    · subst he; exact hv _ _ ha hb
    · subst he
      unfold oneE at hE
      injection hE with _ _ e3
      exact h1 _ _ _ ho hk hx (ih x (by rw [← e3]; simp) hx)
    · subst he
      unfold twoE at hE
      injection hE with _ _ e3
      exact h2 _ _ _ _ ha hb hk hk2 hx hy (ih x (by rw [← e3]; simp) hx) (ih y (by rw [← e3]; simp) hy)

/-- A scene whose numbers are in their ranges. -/
structure ScOk (s : Sc) : Prop where
  n0 : 1 ≤ s.n
  n1 : s.n ≤ 5
  inl : ∀ x ∈ s.inl, small x = true
  outl : ∀ x ∈ s.outl, small x = true
  hears : s.hears.length = 5

theorem small_iff {n : Int} : small n = true ↔ -1048576 ≤ n ∧ n ≤ 1048576 := by unfold small; simp
theorem flag_range (b : Bool) : flag b = 0 ∨ flag b = 1 := by cases b <;> simp [flag]
theorem atS_small {l : List Int} (h : ∀ x ∈ l, small x = true) (p n : Int) : -1048576 ≤ atS l p n ∧ atS l p n ≤ 1048576 := by
  unfold atS
  split
  · omega
  · rename_i h1
    exact small_iff.1 (h _ (nth_mem (by omega)))

def ones (s : Sc) (f : List Int → Int) (vars : List Int) : Int := ((List.range s.n.toNat).map fun p : Nat => f (vars ++ [(p : Int)])).sum
theorem valE_num (s : Sc) (n : Int) (vs : List Int) : valE s (numE n) vs = n := by simp [numE, valE, combine]
theorem valE_var (s : Sc) (n : Int) (vs : List Int) : valE s (varE n) vs = nth vs n.toNat := by simp [varE, valE, combine]
theorem valE_in (s : Sc) (x : Ex) (vs : List Int) : valE s (oneE 2 x) vs = atS s.inl (valE s x vs) s.n := by simp [oneE, valE, combine, valL]
theorem valE_out (s : Sc) (x : Ex) (vs : List Int) : valE s (oneE 3 x) vs = atS s.outl (valE s x vs) s.n := by simp [oneE, valE, combine, valL]
theorem valE_not (s : Sc) (x : Ex) (vs : List Int) : valE s (oneE 12 x) vs = 1 - valE s x vs := by simp [oneE, valE, combine, valL]
theorem valE_all (s : Sc) (x : Ex) (vs : List Int) : valE s (oneE 13 x) vs = flag (decide (ones s (valE s x) vs = s.n)) := by simp [oneE, valE, combine, valL, ones]; rfl
theorem valE_some (s : Sc) (x : Ex) (vs : List Int) : valE s (oneE 14 x) vs = flag (decide (0 < ones s (valE s x) vs)) := by simp [oneE, valE, combine, valL, ones]; rfl
theorem valE_count (s : Sc) (x : Ex) (vs : List Int) : valE s (oneE 15 x) vs = ones s (valE s x) vs := by simp [oneE, valE, combine, valL, ones]
def hearsV (s : Sc) (a b : Int) : Bool := decide (0 ≤ a) && decide (a < s.n) && decide (0 ≤ b) && decide (b < s.n) && bitS (nth s.hears a.toNat) b
def twoV (s : Sc) (op a b : Int) : Int :=
  if op = 4 then flag (hearsV s a b) else if op = 5 then a + b else if op = 6 then a - b else if op = 7 then flag (decide (a = b)) else if op = 8 then flag (decide (a < b))
  else if op = 9 then flag (decide (a ≤ b)) else if op = 10 then a * b else flag (decide (0 < a + b))
theorem valE_two (s : Sc) {op : Int} (h : 4 ≤ op) (h1 : op ≤ 11) (x y : Ex) (vs : List Int) : valE s (twoE op x y) vs = twoV s op (valE s x vs) (valE s y vs) := by
  have : op = 4 ∨ op = 5 ∨ op = 6 ∨ op = 7 ∨ op = 8 ∨ op = 9 ∨ op = 10 ∨ op = 11 := by omega
  rcases this with rfl | rfl | rfl | rfl | rfl | rfl | rfl | rfl <;> simp [twoE, valE, combine, valL, twoV, hearsV]

theorem ones_range (s : Sc) (h0 : 0 ≤ s.n) (f : List Int → Int) (vs : List Int) (hf : ∀ p : Nat, (p : Int) < s.n → f (vs ++ [(p : Int)]) = 0 ∨ f (vs ++ [(p : Int)]) = 1) : 0 ≤ ones s f vs ∧ ones s f vs ≤ s.n := by
  unfold ones
  have key : ∀ m : Nat, (m : Int) ≤ s.n → 0 ≤ ((List.range m).map fun p : Nat => f (vs ++ [(p : Int)])).sum ∧ ((List.range m).map fun p : Nat => f (vs ++ [(p : Int)])).sum ≤ m := by
    intro m
    induction m with
    | zero => simp
    | succ m ih =>
      intro hm
      have h1 := ih (by omega)
      have h2 := hf m (by omega)
      rw [List.range_succ, List.map_append, List.sum_append]
      simp only [List.map_cons, List.map_nil, List.sum_cons, List.sum_nil]
      omega
  have := key s.n.toNat (by omega)
  omega

/-- Values are in a range that goes by the size, and those of conditions are 0 or 1. -/
theorem val_range {s : Sc} (hs : ScOk s) {vars : Int} {e : Ex} (h : Wf vars e) : ∀ vs : List Int, (vs.length : Int) = vars → (∀ x ∈ vs, small x = true) →
    -(1048576 * (sizeE e : Int)) ≤ valE s e vs ∧ valE s e vs ≤ 1048576 * (sizeE e : Int) ∧ (kindOf e.op = 1 → valE s e vs = 0 ∨ valE s e vs = 1) := by
  have hn0 := hs.n0
  have hn1 := hs.n1
  induction h using Wf.rec4 with
  | hn vars n h =>
    intro vs _ _
    rw [valE_num]
    have := small_iff.1 h
    refine ⟨?_, ?_, ?_⟩
    · simp [numE, sizeE, sizeL]; omega
    · simp [numE, sizeE, sizeL]; omega
    · simp [numE, Ex.op, kindOf]
  | hv vars n h h1 =>
    intro vs hl hv
    rw [valE_var]
    have := small_iff.1 (hv _ (nth_mem (k := n.toNat) (by omega)))
    refine ⟨?_, ?_, ?_⟩
    · simp [varE, sizeE, sizeL]; omega
    · simp [varE, sizeE, sizeL]; omega
    · simp [varE, Ex.op, kindOf]
  | h1 vars op x ho hk hx ih =>
    intro vs hl hv
    have hsz := sizeE_pos x
    have hq : op = 13 ∨ op = 14 ∨ op = 15 → 0 ≤ ones s (valE s x) vs ∧ ones s (valE s x) vs ≤ s.n := by
      intro hop
      have hq : quant op = true := by unfold quant; rcases hop with rfl | rfl | rfl <;> rfl
      have hi : innerV op vars = vars + 1 := by unfold innerV; rw [if_pos hq]
      have ha : argKind op = 1 := by unfold argKind; rw [if_pos (by omega)]
      refine ones_range s (by omega) _ _ fun p hp => ?_
      refine (ih _ (by simp [hi]; omega) (fun y hy => ?_)).2.2 (hk.trans ha)
      rcases List.mem_append.1 hy with hy | hy
      · exact hv y hy
      · obtain rfl : y = p := by simpa using hy
        exact small_iff.2 (by omega)
    have hiv : op = 2 ∨ op = 3 ∨ op = 12 → innerV op vars = vars := by
      intro hop
      unfold innerV quant
      rw [if_neg (by rcases hop with rfl | rfl | rfl <;> simp)]
    have hS : (sizeE (oneE op x) : Int) = 1 + sizeE x := by simp [oneE, sizeE, sizeL]
    rw [hS]
    rcases ho with rfl | rfl | rfl | rfl | rfl | rfl
    · rw [valE_in]; have := atS_small hs.inl (valE s x vs) s.n
      exact ⟨by omega, by omega, by simp [oneE, Ex.op, kindOf]⟩
    · rw [valE_out]; have := atS_small hs.outl (valE s x vs) s.n
      exact ⟨by omega, by omega, by simp [oneE, Ex.op, kindOf]⟩
    · rw [valE_not]
      have h2 := ih vs (by rw [hiv (by simp)]; exact hl) hv
      have := h2.2.2 (hk.trans rfl)
      exact ⟨by omega, by omega, fun _ => by omega⟩
    · rw [valE_all]
      have := flag_range (decide (ones s (valE s x) vs = s.n))
      exact ⟨by omega, by omega, fun _ => this⟩
    · rw [valE_some]
      have := flag_range (decide (0 < ones s (valE s x) vs))
      exact ⟨by omega, by omega, fun _ => this⟩
    · rw [valE_count]
      have := hq (by simp)
      exact ⟨by omega, by omega, by simp [oneE, Ex.op, kindOf]⟩
  | h2 vars op x y h4 h11 hk hk2 hx hy ih ih2 =>
    intro vs hl hv
    have hsz := sizeE_pos x
    have hsz2 := sizeE_pos y
    rw [valE_two s h4 h11]
    have a := ih vs hl hv
    have b := ih2 vs hl hv
    have hS : (sizeE (twoE op x y) : Int) = 1 + sizeE x + sizeE y := by simp [twoE, sizeE, sizeL]; omega
    rw [hS]
    have hop : (twoE op x y).op = op := rfl
    rw [hop]
    have : op = 4 ∨ op = 5 ∨ op = 6 ∨ op = 7 ∨ op = 8 ∨ op = 9 ∨ op = 10 ∨ op = 11 := by omega
    rcases this with rfl | rfl | rfl | rfl | rfl | rfl | rfl | rfl
    · simp only [twoV, ↓reduceIte]
      have := flag_range (hearsV s (valE s x vs) (valE s y vs))
      exact ⟨by omega, by omega, fun _ => this⟩
    · show _ ≤ valE s x vs + valE s y vs ∧ valE s x vs + valE s y vs ≤ _ ∧ _
      exact ⟨by omega, by omega, by simp [kindOf]⟩
    · show _ ≤ valE s x vs - valE s y vs ∧ valE s x vs - valE s y vs ≤ _ ∧ _
      exact ⟨by omega, by omega, by simp [kindOf]⟩
    · show _ ≤ flag (decide (valE s x vs = valE s y vs)) ∧ flag (decide (valE s x vs = valE s y vs)) ≤ _ ∧ (_ → flag (decide (valE s x vs = valE s y vs)) = 0 ∨ flag (decide (valE s x vs = valE s y vs)) = 1)
      have := flag_range (decide (valE s x vs = valE s y vs))
      exact ⟨by omega, by omega, fun _ => this⟩
    · show _ ≤ flag (decide (valE s x vs < valE s y vs)) ∧ flag (decide (valE s x vs < valE s y vs)) ≤ _ ∧ (_ → flag (decide (valE s x vs < valE s y vs)) = 0 ∨ flag (decide (valE s x vs < valE s y vs)) = 1)
      have := flag_range (decide (valE s x vs < valE s y vs))
      exact ⟨by omega, by omega, fun _ => this⟩
    · show _ ≤ flag (decide (valE s x vs ≤ valE s y vs)) ∧ flag (decide (valE s x vs ≤ valE s y vs)) ≤ _ ∧ (_ → flag (decide (valE s x vs ≤ valE s y vs)) = 0 ∨ flag (decide (valE s x vs ≤ valE s y vs)) = 1)
      have := flag_range (decide (valE s x vs ≤ valE s y vs))
      exact ⟨by omega, by omega, fun _ => this⟩
    · show _ ≤ valE s x vs * valE s y vs ∧ valE s x vs * valE s y vs ≤ _ ∧ (_ → valE s x vs * valE s y vs = 0 ∨ valE s x vs * valE s y vs = 1)
      have h1 := a.2.2 (hk.trans rfl)
      have h2 := b.2.2 (hk2.trans rfl)
      rcases h1 with h1 | h1 <;> rcases h2 with h2 | h2 <;> rw [h1, h2] <;> exact ⟨by omega, by omega, fun _ => by omega⟩
    · show _ ≤ flag (decide (0 < valE s x vs + valE s y vs)) ∧ flag (decide (0 < valE s x vs + valE s y vs)) ≤ _ ∧ (_ → flag (decide (0 < valE s x vs + valE s y vs)) = 0 ∨ flag (decide (0 < valE s x vs + valE s y vs)) = 1)
      have := flag_range (decide (0 < valE s x vs + valE s y vs))
      exact ⟨by omega, by omega, fun _ => this⟩
end Go.Proofs.YthogcbffnbhalaaDoor

