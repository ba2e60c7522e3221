/- Expressions as plain data, and what the program computes of them. -/
import Derived.Test.YthogcbffnbhalaaDoorBase
namespace Go.Proofs.YthogcbffnbhalaaDoor
set_option linter.unusedVariables false

inductive Ex where
  | node (op num : Int) (args : List Ex)

def Ex.op : Ex → Int | .node o _ _ => o
def Ex.num : Ex → Int | .node _ n _ => n
def Ex.args : Ex → List Ex | .node _ _ l => l
def nthE (l : List Ex) (j : Nat) : Ex := l[j]?.getD (.node 0 0 [])
theorem nthE_eq {l : List Ex} {k : Nat} (h : k < l.length) : nthE l k = l[k] := by simp [nthE, h]
theorem nthE_mem {l : List Ex} {k : Nat} (h : k < l.length) : nthE l k ∈ l := by rw [nthE_eq h]; exact List.getElem_mem h
theorem take_nthE {l : List Ex} {k : Nat} (h : k < l.length) : l.take (k + 1) = l.take k ++ [nthE l k] := by rw [nthE_eq h]; exact (List.take_append_getElem h).symm
theorem drop_nthE {l : List Ex} {k : Nat} (h : k < l.length) : l.drop k = nthE l k :: l.drop (k + 1) := by rw [nthE_eq h]; exact List.drop_eq_getElem_cons h

mutual
def sizeE : Ex → Nat
  | .node _ _ xs => 1 + sizeL xs
def sizeL : List Ex → Nat
  | [] => 0
  | e :: es => sizeE e + sizeL es
end
mutual
def depthE : Ex → Nat
  | .node _ _ xs => depthL xs + 1
def depthL : List Ex → Nat
  | [] => 0
  | e :: es => max (depthE e) (depthL es)
end
def quant (op : Int) : Bool := decide (13 ≤ op) && decide (op ≤ 15)
mutual
def quantE : Ex → Nat
  | .node op _ xs => quantL xs + (if quant op then 1 else 0)
def quantL : List Ex → Nat
  | [] => 0
  | e :: es => max (quantE e) (quantL es)
end
theorem sizeL_snoc (l : List Ex) (e : Ex) : sizeL (l ++ [e]) = sizeL l + sizeE e := by
  induction l with
  | nil => simp [sizeL]
  | cons x l ih => simp only [List.cons_append, sizeL, ih]; omega
theorem sizeL_append (l m : List Ex) : sizeL (l ++ m) = sizeL l + sizeL m := by
  induction l with
  | nil => simp [sizeL]
  | cons x l ih => simp only [List.cons_append, sizeL, ih]; omega
theorem depthL_snoc (l : List Ex) (e : Ex) : depthL (l ++ [e]) = max (depthL l) (depthE e) := by
  induction l with
  | nil => simp [depthL]
  | cons x l ih => simp only [List.cons_append, depthL, ih]; omega
theorem quantL_snoc (l : List Ex) (e : Ex) : quantL (l ++ [e]) = max (quantL l) (quantE e) := by
  induction l with
  | nil => simp [quantL]
  | cons x l ih => simp only [List.cons_append, quantL, ih]; omega
theorem sizeE_pos (e : Ex) : 1 ≤ sizeE e := by cases e; simp [sizeE]
theorem sizeL_take_le (l : List Ex) (k : Nat) : sizeL (l.take k) ≤ sizeL l := by
  have := sizeL_append (l.take k) (l.drop k)
  rw [List.take_append_drop] at this
  omega
theorem sizeL_nth {l : List Ex} {k : Nat} (h : k < l.length) : sizeL (l.take k) + sizeE (nthE l k) ≤ sizeL l := by
  have := sizeL_take_le l (k + 1)
  rw [take_nthE h, sizeL_snoc] at this
  exact this
theorem length_le_size (l : List Ex) : l.length ≤ sizeL l := by
  induction l with
  | nil => simp
  | cons x l ih => have := sizeE_pos x; simp only [List.length_cons, sizeL]; omega
theorem depthE_le_size (e : Ex) : depthE e ≤ sizeE e := by
  have key : ∀ n : Nat, (∀ e : Ex, sizeE e ≤ n → depthE e ≤ sizeE e) := by
    intro n
    induction n with
    | zero => intro e h; have := sizeE_pos e; omega
    | succ n ih =>
      intro e h
      cases e with
      | node op num xs =>
        simp only [sizeE, depthE] at h ⊢
        have : ∀ l : List Ex, sizeL l ≤ n → depthL l ≤ sizeL l := by
          intro l
          induction l with
          | nil => intro _; simp [depthL]
          | cons x l ihl =>
            intro hl
            simp only [sizeL, depthL] at hl ⊢
            have h1 := ih x (by omega)
            have h2 := ihl (by omega)
            omega
        have := this xs (by omega)
        omega
  exact key _ e (Nat.le_refl _)

theorem depthL_le (l : List Ex) : depthL l ≤ sizeL l := by
  induction l with
  | nil => simp [depthL]
  | cons x l ih => have := depthE_le_size x; simp only [sizeL, depthL]; omega

def arity (op : Int) : Int := if op < 0 ∨ 15 < op then -1 else if op ≤ 1 then 0 else if op = 2 ∨ op = 3 ∨ op = 12 ∨ 13 ≤ op then 1 else 2
def kindOf (op : Int) : Int := if op = 0 ∨ op = 1 ∨ op = 2 ∨ op = 3 ∨ op = 5 ∨ op = 6 ∨ op = 15 then 0 else 1
def argKind (op : Int) : Int := if 10 ≤ op then 1 else 0
def small (n : Int) : Bool := decide (-1048576 ≤ n) && decide (n ≤ 1048576)
/-- An argument whose kind does not fit. -/
def misfit (op : Int) (a : Ex) : Bool := decide (0 ≤ arity a.op) && decide (kindOf a.op ≠ argKind op)
def nodeErr (e : Ex) (vars : Int) : Int :=
  if arity e.op < 0 then 1
  else if (e.args.length : Int) ≠ arity e.op then 15
  else if e.op = 1 ∧ (e.num < 0 ∨ vars ≤ e.num) then 10
  else if e.op = 0 ∧ small e.num = false then 2
  else if 1 < e.op ∧ e.num ≠ 0 then 3
  else if e.args.any (misfit e.op) then 9 else 0
def innerV (op vars : Int) : Int := if quant op then vars + 1 else vars
mutual
def nodesErr : Ex → Int → Int
  | .node op num xs, vars => if nodeErr (.node op num xs) vars ≠ 0 then nodeErr (.node op num xs) vars else nodesErrL xs (innerV op vars)
def nodesErrL : List Ex → Int → Int
  | [], _ => 0
  | e :: es, vars => if nodesErr e vars ≠ 0 then nodesErr e vars else nodesErrL es vars
end
def checkE (e : Ex) (vars : Int) : Int :=
  if vars < 0 ∨ 24 < vars then 2 else if 128 < sizeE e then 5 else if 24 < depthE e then 12 else nodesErr e vars

def ownUse (op : Int) : Nat := if op = 2 then 1 else if op = 3 then 2 else if op = 4 then 4 else 0
mutual
def usesE : Ex → Nat
  | .node op _ xs => ownUse op ||| usesL xs
def usesL : List Ex → Nat
  | [] => 0
  | e :: es => usesE e ||| usesL es
end
theorem usesL_snoc (l : List Ex) (e : Ex) : usesL (l ++ [e]) = usesL l ||| usesE e := by
  induction l with
  | nil => simp [usesL]
  | cons x l ih => simp only [List.cons_append, usesL, ih, Nat.or_assoc]

structure Sc where
  n : Int
  inl : List Int
  outl : List Int
  hears : List Int
  vars : List Int
def flag (b : Bool) : Int := if b then 1 else 0
def atS (l : List Int) (p n : Int) : Int := if p < 0 ∨ n ≤ p ∨ (l.length : Int) ≤ p then -1 else nth l p.toNat
def bitS (x b : Int) : Bool := decide (x / 2 ^ b.toNat % 2 = 1)
/-- Values of the arguments, xs functions of the variables, make the value of a node. -/
def combine (s : Sc) (op num : Int) (fs : List (List Int → Int)) (vars : List Int) : Int :=
  let f0 := fs[0]?.getD (fun _ => 0)
  let f1 := fs[1]?.getD (fun _ => 0)
  let cnt := ((List.range s.n.toNat).map fun p : Nat => f0 (vars ++ [(p : Int)])).sum
  if op = 0 then num
  else if op = 1 then nth vars num.toNat
  else if op = 13 then flag (decide (cnt = s.n))
  else if op = 14 then flag (decide (0 < cnt))
  else if op = 15 then cnt
  else if op = 2 then atS s.inl (f0 vars) s.n
  else if op = 3 then atS s.outl (f0 vars) s.n
  else if op = 12 then 1 - f0 vars
  else if op = 4 then flag (decide (0 ≤ f0 vars) && decide (f0 vars < s.n) && decide (0 ≤ f1 vars) && decide (f1 vars < s.n) && bitS (nth s.hears (f0 vars).toNat) (f1 vars))
  else if op = 5 then f0 vars + f1 vars
  else if op = 6 then f0 vars - f1 vars
  else if op = 7 then flag (decide (f0 vars = f1 vars))
  else if op = 8 then flag (decide (f0 vars < f1 vars))
  else if op = 9 then flag (decide (f0 vars ≤ f1 vars))
  else if op = 10 then f0 vars * f1 vars
  else flag (decide (0 < f0 vars + f1 vars))
mutual
def valE (s : Sc) : Ex → List Int → Int
  | .node op num xs => combine s op num (valL s xs)
def valL (s : Sc) : List Ex → List (List Int → Int)
  | [] => []
  | e :: es => valE s e :: valL s es
end
theorem valL_map (s : Sc) (l : List Ex) : valL s l = l.map (valE s) := by
  induction l with
  | nil => rfl
  | cons x l ih => simp only [valL, ih, List.map_cons]

mutual
def sameE : Ex → Ex → Bool
  | .node o n xs, .node p m ys => decide (o = p) && decide (n = m) && sameEs xs ys
def sameEs : List Ex → List Ex → Bool
  | [], [] => true
  | a :: xs, b :: ys => sameE a b && sameEs xs ys
  | _, _ => false
end
mutual
theorem sameE_eq : ∀ a b : Ex, sameE a b = true ↔ a = b
  | .node o n xs, .node p m ys => by
    simp only [sameE, Bool.and_eq_true, decide_eq_true_eq, sameEs_eq xs ys, Ex.node.injEq, and_assoc]
theorem sameEs_eq : ∀ a b : List Ex, sameEs a b = true ↔ a = b
  | [], [] => by simp [sameEs]
  | [], b :: ys => by simp [sameEs]
  | a :: xs, [] => by simp [sameEs]
  | a :: xs, b :: ys => by simp [sameEs, sameE_eq a b, sameEs_eq xs ys]
end
instance : DecidableEq Ex := fun a b => decidable_of_iff _ (sameE_eq a b)
end Go.Proofs.YthogcbffnbhalaaDoor

