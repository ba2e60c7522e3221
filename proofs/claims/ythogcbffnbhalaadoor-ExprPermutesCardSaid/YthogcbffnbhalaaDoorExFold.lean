/- Folding, as plain data: what it gives, and that it keeps what it should. -/
import Derived.Test.YthogcbffnbhalaaDoorExWf
namespace Go.Proofs.YthogcbffnbhalaaDoor
set_option linter.unusedVariables false

def cmpV (op a b : Int) : Int := if op = 5 then a + b else if op = 6 then a - b else if op = 7 then flag (decide (a = b)) else if op = 8 then flag (decide (a < b)) else flag (decide (a ≤ b))
def isE (e : Ex) (b : Bool) : Bool := sameE e (flagE b)
def simpleE : Ex → Ex
  | .node op num xs =>
    if 5 ≤ op ∧ op ≤ 9 then
      if (nthE xs 0).op = 0 ∧ (nthE xs 1).op = 0 then
        if 7 ≤ op then flagE (decide (cmpV op (nthE xs 0).num (nthE xs 1).num = 1))
        else if small (cmpV op (nthE xs 0).num (nthE xs 1).num) = true then numE (cmpV op (nthE xs 0).num (nthE xs 1).num) else .node op num xs
      else .node op num xs
    else if op = 10 ∨ op = 11 then
      if isE (nthE xs 0) (decide (op = 10)) = true then nthE xs 1
      else if isE (nthE xs 1) (decide (op = 10)) = true then nthE xs 0
      else if isE (nthE xs 0) (!decide (op = 10)) = true ∨ isE (nthE xs 1) (!decide (op = 10)) = true then flagE (!decide (op = 10))
      else .node op num xs
    else if op = 12 then
      if isE (nthE xs 0) true = true ∨ isE (nthE xs 0) false = true then flagE (isE (nthE xs 0) false)
      else if (nthE xs 0).op = 12 then nthE (nthE xs 0).args 0 else .node op num xs
    else if op = 13 ∨ op = 14 then
      if isE (nthE xs 0) true = true ∨ isE (nthE xs 0) false = true then nthE xs 0 else .node op num xs
    else if op = 15 then
      if isE (nthE xs 0) false = true then numE 0 else .node op num xs
    else .node op num xs
mutual
def foldE : Ex → Ex
  | .node op num xs => simpleE (.node op num (foldL xs))
def foldL : List Ex → List Ex
  | [] => []
  | e :: es => foldE e :: foldL es
end
theorem foldL_map (l : List Ex) : foldL l = l.map foldE := by
  induction l with
  | nil => rfl
  | cons x l ih => simp only [foldL, ih, List.map_cons]
theorem foldL_length (l : List Ex) : (foldL l).length = l.length := by rw [foldL_map, List.length_map]
theorem isE_eq {e : Ex} {b : Bool} : isE e b = true ↔ e = flagE b := sameE_eq e (flagE b)

/-- Expressions to which nothing more is to be done. -/
inductive Nf : Ex → Prop where
  | mk {op num : Int} {xs : List Ex} (h : simpleE (.node op num xs) = .node op num xs) (hx : ∀ x ∈ xs, Nf x) : Nf (.node op num xs)
theorem Nf.num (n : Int) : Nf (numE n) := .mk (by simp [simpleE]) (by simp)
theorem Nf.flag (b : Bool) : Nf (flagE b) := by
  have hx : ∀ x ∈ [numE 0, numE 0], Nf x := by
    intro x hx
    have : x = numE 0 := by simpa using hx
    rw [this]; exact Nf.num 0
  cases b with
  | true => exact .mk (op := 7) (num := 0) (by simp [simpleE, nthE, numE, Ex.op, Ex.num, cmpV, flagE, twoE, Go.Proofs.YthogcbffnbhalaaDoor.flag]) hx
  | false => exact .mk (op := 8) (num := 0) (by simp [simpleE, nthE, numE, Ex.op, Ex.num, cmpV, flagE, twoE, Go.Proofs.YthogcbffnbhalaaDoor.flag]) hx
theorem Nf.nth {l : List Ex} (h : ∀ x ∈ l, Nf x) (k : Nat) : Nf (nthE l k) := by
  by_cases hk : k < l.length
  · exact h _ (nthE_mem hk)
  · have : nthE l k = numE 0 := by unfold nthE numE; rw [List.getElem?_eq_none (by omega)]; rfl
    rw [this]; exact Nf.num 0
theorem Nf.args {e : Ex} (h : Nf e) : ∀ x ∈ e.args, Nf x := by
  cases h with
  | mk h hx => exact hx
theorem Nf.simple {op num : Int} {xs : List Ex} (h : ∀ x ∈ xs, Nf x) : Nf (simpleE (.node op num xs)) := by
  have key : simpleE (.node op num xs) = .node op num xs ∨ Nf (simpleE (.node op num xs)) := by
    simp only [simpleE]
    split
    · split
      · split
        · exact .inr (.flag _)
        · split
          · exact .inr (.num _)
          · exact .inl rfl
      · exact .inl rfl
    split
    · split
      · exact .inr (.nth h _)
      split
      · exact .inr (.nth h _)
      split
      · exact .inr (.flag _)
      · exact .inl rfl
    split
    · split
      · exact .inr (.flag _)
      split
      · exact .inr (.nth (Nf.nth h _).args _)
      · exact .inl rfl
    split
    · split
      · exact .inr (.nth h _)
      · exact .inl rfl
    split
    · split
      · exact .inr (.num _)
      · exact .inl rfl
    · exact .inl rfl
  rcases key with h1 | h1
  · rw [h1]; exact .mk h1 h
  · exact h1
theorem Nf.fold (e : Ex) : Nf (foldE e) := by
  induction e using Ex.ind with
  | h op num xs ih =>
    rw [foldE]
    refine .simple fun x hx => ?_
    rw [foldL_map] at hx
    obtain ⟨y, hy, rfl⟩ := List.mem_map.1 hx
    exact ih y hy
theorem Nf.fold_eq {e : Ex} (h : Nf e) : foldE e = e := by
  induction h with
  | mk h hx ih =>
    rw [foldE]
    have : foldL _ = _ := (foldL_map _).trans (List.map_congr_left ih)
    rw [this, List.map_id', h]
theorem fold_fold (e : Ex) : foldE (foldE e) = foldE e := (Nf.fold e).fold_eq

theorem nthE_one (x : Ex) : nthE [x] 0 = x := rfl
theorem nthE_two0 (x y : Ex) : nthE [x, y] 0 = x := rfl
theorem nthE_two1 (x y : Ex) : nthE [x, y] 1 = y := rfl
theorem fold_num (n : Int) : foldE (numE n) = numE n := (Nf.num n).fold_eq
theorem fold_var (n : Int) : foldE (varE n) = varE n := by simp [varE, foldE, foldL, simpleE]
theorem fold_one (op : Int) (x : Ex) : foldE (oneE op x) = simpleE (oneE op (foldE x)) := by simp only [oneE, foldE, foldL]
theorem fold_two (op : Int) (x y : Ex) : foldE (twoE op x y) = simpleE (twoE op (foldE x) (foldE y)) := by simp only [twoE, foldE, foldL]

theorem Wf.flag {vars : Int} (b : Bool) : Wf vars (flagE b) := by
  cases b with
  | true => exact .two (op := 7) (by omega) (by omega) rfl rfl (.num rfl) (.num rfl)
  | false => exact .two (op := 8) (by omega) (by omega) rfl rfl (.num rfl) (.num rfl)
theorem kind_flag (b : Bool) : kindOf (flagE b).op = 1 := by cases b <;> rfl
theorem size_flag (b : Bool) : sizeE (flagE b) = 3 := by cases b <;> rfl
theorem depth_flag (b : Bool) : depthE (flagE b) = 2 := by cases b <;> rfl
theorem uses_flag (b : Bool) : usesE (flagE b) = 0 := by cases b <;> rfl
theorem val_flag (s : Sc) (b : Bool) (vs : List Int) : valE s (flagE b) vs = Go.Proofs.YthogcbffnbhalaaDoor.flag b := by
  cases b with
  | true => show valE s (twoE 7 (numE 0) (numE 0)) vs = 1; rw [valE_two s (by omega) (by omega), valE_num]; rfl
  | false => show valE s (twoE 8 (numE 0) (numE 0)) vs = 0; rw [valE_two s (by omega) (by omega), valE_num]; rfl
theorem op_zero_num {vars : Int} {e : Ex} (h : Wf vars e) (h0 : e.op = 0) : e = numE e.num ∧ small e.num = true := by
  rcases h.forms with ⟨n, rfl, hs⟩ | ⟨n, rfl, _⟩ | ⟨op, x, rfl, ho, _⟩ | ⟨op, x, y, rfl, h4, _⟩
  · exact ⟨rfl, hs⟩
  · simp [varE, Ex.op] at h0
  · simp only [oneE, Ex.op] at h0; unfold op1 at ho; omega
  · simp only [twoE, Ex.op] at h0; omega

/-- What is kept by a simplification. -/
structure Kept (vars : Int) (e x : Ex) : Prop where
  wf : Wf vars x
  kind : kindOf x.op = kindOf e.op
  size : sizeE x ≤ sizeE e
  depth : depthE x ≤ depthE e
  uses : usesE x &&& usesE e = usesE x
  val : ∀ s, ScOk s → ∀ vs : List Int, (vs.length : Int) = vars → (∀ x ∈ vs, small x = true) → valE s x vs = valE s e vs
theorem Kept.refl {vars : Int} {e : Ex} (h : Wf vars e) : Kept vars e e := ⟨h, rfl, Nat.le_refl _, Nat.le_refl _, Nat.and_self _, fun _ _ _ _ _ => rfl⟩
theorem and_trans {a b c : Nat} (h : a &&& b = a) (k : b &&& c = b) : a &&& c = a := by
  rw [← h, Nat.and_assoc, k]
theorem Kept.trans {vars : Int} {e x y : Ex} (h : Kept vars e x) (k : Kept vars x y) : Kept vars e y :=
  ⟨k.wf, k.kind.trans h.kind, Nat.le_trans k.size h.size, Nat.le_trans k.depth h.depth, and_trans k.uses h.uses, fun s hs vs h1 h2 => (k.val s hs vs h1 h2).trans (h.val s hs vs h1 h2)⟩

theorem and_or_left {a b c : Nat} (h : a &&& b = a) : a &&& (b ||| c) = a := by
  apply Nat.eq_of_testBit_eq
  intro i
  have := congrArg (fun n => n.testBit i) h
  simp only [Nat.testBit_and, Nat.testBit_or] at this ⊢
  revert this
  cases a.testBit i <;> cases b.testBit i <;> simp
theorem and_or_mono {a b c d : Nat} (h : a &&& b = a) (k : c &&& d = c) : (a ||| c) &&& (b ||| d) = a ||| c := by
  apply Nat.eq_of_testBit_eq
  intro i
  have h1 := congrArg (fun n => n.testBit i) h
  have h2 := congrArg (fun n => n.testBit i) k
  simp only [Nat.testBit_and, Nat.testBit_or] at h1 h2 ⊢
  revert h1 h2
  cases a.testBit i <;> cases b.testBit i <;> cases c.testBit i <;> cases d.testBit i <;> simp
theorem uses_one (op : Int) (x : Ex) : usesE (oneE op x) = ownUse op ||| usesE x := by simp [oneE, usesE, usesL]
theorem uses_two (op : Int) (x y : Ex) : usesE (twoE op x y) = ownUse op ||| (usesE x ||| usesE y) := by simp [twoE, usesE, usesL]
theorem size_one (op : Int) (x : Ex) : sizeE (oneE op x) = 1 + sizeE x := by simp [oneE, sizeE, sizeL]
theorem size_two (op : Int) (x y : Ex) : sizeE (twoE op x y) = 1 + (sizeE x + sizeE y) := by simp [twoE, sizeE, sizeL]
theorem depth_one (op : Int) (x : Ex) : depthE (oneE op x) = depthE x + 1 := by simp [oneE, depthE, depthL]
theorem depth_two (op : Int) (x y : Ex) : depthE (twoE op x y) = max (depthE x) (depthE y) + 1 := by simp [twoE, depthE, depthL]
theorem depthE_pos (e : Ex) : 1 ≤ depthE e := by cases e; simp [depthE]

theorem ones_congr (s : Sc) (h0 : 0 ≤ s.n) (f g : List Int → Int) (vs : List Int) (hf : ∀ p : Nat, (p : Int) < s.n → f (vs ++ [(p : Int)]) = g (vs ++ [(p : Int)])) : ones s f vs = ones s g vs := by
  unfold ones
  rw [List.map_congr_left]
  intro p hp
  exact hf p (by have := List.mem_range.1 hp; omega)
theorem ones_const (s : Sc) (h0 : 0 ≤ s.n) (f : List Int → Int) (c : Int) (vs : List Int) (hf : ∀ p : Nat, (p : Int) < s.n → f (vs ++ [(p : Int)]) = c) : ones s f vs = s.n * c := by
  unfold ones
  have key : ∀ m : Nat, (m : Int) ≤ s.n → ((List.range m).map fun p : Nat => f (vs ++ [(p : Int)])).sum = m * c := by
    intro m
    induction m with
    | zero => simp
    | succ m ih =>
      intro hm
      rw [List.range_succ, List.map_append, List.sum_append, ih (by omega)]
      simp only [List.map_cons, List.map_nil, List.sum_cons, List.sum_nil]
      rw [hf m (by omega), Int.natCast_succ, Int.add_mul]
      omega
  rw [key _ (by omega), Int.toNat_of_nonneg h0]

theorem snoc_ok {vs : List Int} {s : Sc} (hs : ScOk s) {p : Nat} (hp : (p : Int) < s.n) (hv : ∀ x ∈ vs, small x = true) : ∀ x ∈ vs ++ [(p : Int)], small x = true := by
  intro y hy
  have := hs.n1
  rcases List.mem_append.1 hy with hy | hy
  · exact hv y hy
  · obtain rfl : y = p := by simpa using hy
    exact small_iff.2 (by omega)

/-- One more node above what is kept. -/
theorem Kept.one {vars op : Int} {x y : Ex} (ho : op1 op) (hk : kindOf x.op = argKind op) (h : Kept (innerV op vars) x y) : Kept vars (oneE op x) (oneE op y) where
  wf := .one ho (h.kind.trans hk) h.wf
  kind := rfl
  size := by rw [size_one, size_one]; have := h.size; omega
  depth := by rw [depth_one, depth_one]; have := h.depth; omega
  uses := by rw [uses_one, uses_one]; exact and_or_mono (Nat.and_self _) h.uses
  val := by
    intro s hs vs h1 h2
    have h0 := hs.n0
    have hin : op = 2 ∨ op = 3 ∨ op = 12 → valE s y vs = valE s x vs := by
      intro hop
      refine h.val s hs vs ?_ h2
      unfold innerV quant
      rw [if_neg (by rcases hop with rfl | rfl | rfl <;> simp), h1]
    have hq : op = 13 ∨ op = 14 ∨ op = 15 → ones s (valE s y) vs = ones s (valE s x) vs := by
      intro hop
      refine ones_congr s (by omega) _ _ _ fun p hp => h.val s hs _ ?_ (snoc_ok hs hp h2)
      unfold innerV quant
      rw [if_pos (by rcases hop with rfl | rfl | rfl <;> simp)]
      simp [h1]
    rcases ho with rfl | rfl | rfl | rfl | rfl | rfl
    · rw [valE_in, valE_in, hin (by simp)]
    · rw [valE_out, valE_out, hin (by simp)]
    · rw [valE_not, valE_not, hin (by simp)]
    · rw [valE_all, valE_all, hq (by simp)]
    · rw [valE_some, valE_some, hq (by simp)]
    · rw [valE_count, valE_count, hq (by simp)]
theorem Kept.two {vars op : Int} {x y x' y' : Ex} (h4 : 4 ≤ op) (h11 : op ≤ 11) (hk : kindOf x.op = argKind op) (hk2 : kindOf y.op = argKind op) (h : Kept vars x x') (k : Kept vars y y') : Kept vars (twoE op x y) (twoE op x' y') where
  wf := .two h4 h11 (h.kind.trans hk) (k.kind.trans hk2) h.wf k.wf
  kind := rfl
  size := by rw [size_two, size_two]; have := h.size; have := k.size; omega
  depth := by rw [depth_two, depth_two]; have := h.depth; have := k.depth; omega
  uses := by rw [uses_two, uses_two]; exact and_or_mono (Nat.and_self _) (and_or_mono h.uses k.uses)
  val := by
    intro s hs vs h1 h2
    rw [valE_two s h4 h11, valE_two s h4 h11, h.val s hs vs h1 h2, k.val s hs vs h1 h2]

theorem cmpV_two (s : Sc) {op : Int} (h : 5 ≤ op) (h1 : op ≤ 9) (a b : Int) : twoV s op a b = cmpV op a b := by
  have : op = 5 ∨ op = 6 ∨ op = 7 ∨ op = 8 ∨ op = 9 := by omega
  rcases this with rfl | rfl | rfl | rfl | rfl <;> rfl
theorem flag_one {b : Bool} : flag (decide (flag b = 1)) = flag b := by cases b <;> rfl
theorem zero_and (n : Nat) : 0 &&& n = 0 := Nat.zero_and n

theorem simple_num {op num : Int} {xs : List Ex} (h : 5 ≤ op) (h1 : op ≤ 9) : simpleE (.node op num xs) = if (nthE xs 0).op = 0 ∧ (nthE xs 1).op = 0 then
        if 7 ≤ op then flagE (decide (cmpV op (nthE xs 0).num (nthE xs 1).num = 1))
        else if small (cmpV op (nthE xs 0).num (nthE xs 1).num) = true then numE (cmpV op (nthE xs 0).num (nthE xs 1).num) else .node op num xs
      else .node op num xs := by
  simp only [simpleE]
  rw [if_pos ⟨h, h1⟩]
theorem simple_logic {op num : Int} {xs : List Ex} (h : op = 10 ∨ op = 11) : simpleE (.node op num xs) = if isE (nthE xs 0) (decide (op = 10)) = true then nthE xs 1
      else if isE (nthE xs 1) (decide (op = 10)) = true then nthE xs 0
      else if isE (nthE xs 0) (!decide (op = 10)) = true ∨ isE (nthE xs 1) (!decide (op = 10)) = true then flagE (!decide (op = 10))
      else .node op num xs := by
  simp only [simpleE]
  rw [if_neg (by omega), if_pos h]
theorem simple_not {num : Int} {xs : List Ex} : simpleE (.node 12 num xs) = if isE (nthE xs 0) true = true ∨ isE (nthE xs 0) false = true then flagE (isE (nthE xs 0) false)
      else if (nthE xs 0).op = 12 then nthE (nthE xs 0).args 0 else .node 12 num xs := by
  simp only [simpleE]
  rw [if_neg (by omega), if_neg (by omega), if_pos trivial]
theorem simple_quant {op num : Int} {xs : List Ex} (h : op = 13 ∨ op = 14) : simpleE (.node op num xs) = if isE (nthE xs 0) true = true ∨ isE (nthE xs 0) false = true then nthE xs 0 else .node op num xs := by
  simp only [simpleE]
  rw [if_neg (by omega), if_neg (by omega), if_neg (by omega), if_pos h]
theorem simple_count {num : Int} {xs : List Ex} : simpleE (.node 15 num xs) = if isE (nthE xs 0) false = true then numE 0 else .node 15 num xs := by
  simp only [simpleE]
  rw [if_neg (by omega), if_neg (by omega), if_neg (by omega), if_neg (by omega), if_pos trivial]
theorem simple_other {op num : Int} {xs : List Ex} (h : op ≤ 4) : simpleE (.node op num xs) = .node op num xs := by
  simp only [simpleE]
  rw [if_neg (by omega), if_neg (by omega), if_neg (by omega), if_neg (by omega), if_neg (by omega)]

theorem Kept.simple2 {vars op : Int} {x y : Ex} (h4 : 4 ≤ op) (h11 : op ≤ 11) (hk : kindOf x.op = argKind op) (hk2 : kindOf y.op = argKind op) (hx : Wf vars x) (hy : Wf vars y) : Kept vars (twoE op x y) (simpleE (twoE op x y)) := by
  have hw : Wf vars (twoE op x y) := .two h4 h11 hk hk2 hx hy
  have hr := Kept.refl hw
  have sx := sizeE_pos x
  have sy := sizeE_pos y
  have dx := depthE_pos x
  have dy := depthE_pos y
  by_cases h5 : op = 4
  · subst h5; unfold twoE; rw [simple_other (by omega)]; exact hr
  by_cases h9 : op ≤ 9
  · have e : simpleE (twoE op x y) = simpleE (.node op 0 [x, y]) := rfl
    rw [e, simple_num (by omega) h9, nthE_two0, nthE_two1]
    split
    · rename_i h0
      obtain ⟨ex, hsx⟩ := op_zero_num hx h0.1
      obtain ⟨ey, hsy⟩ := op_zero_num hy h0.2
      have hval : ∀ s vs, valE s (twoE op x y) vs = cmpV op x.num y.num := by
        intro s vs
        rw [valE_two s h4 h11, cmpV_two s (by omega) h9]
        rw [ex, ey, valE_num, valE_num]; rfl
      split
      · rename_i h7
        refine ⟨.flag _, ?_, ?_, ?_, ?_, ?_⟩
        · rw [kind_flag]
          have : op = 7 ∨ op = 8 ∨ op = 9 := by omega
          rcases this with rfl | rfl | rfl <;> rfl
        · rw [size_flag, size_two]; omega
        · rw [depth_flag, depth_two]; omega
        · rw [uses_flag]; exact zero_and _
        · intro s _ vs _ _
          rw [hval, val_flag]
          have : op = 7 ∨ op = 8 ∨ op = 9 := by omega
          rcases this with rfl | rfl | rfl <;> exact flag_one
      · split
        · rename_i h7 hs
          refine ⟨.num hs, ?_, ?_, ?_, ?_, ?_⟩
          · have : op = 5 ∨ op = 6 := by omega
            rcases this with rfl | rfl <;> rfl
          · rw [size_two]; simp [numE, sizeE, sizeL]
          · rw [depth_two]; simp [numE, depthE, depthL]
          · exact zero_and _
          · intro s _ vs _ _
            rw [hval, valE_num]
        · exact hr
    · exact hr
  · have h10 : op = 10 ∨ op = 11 := by omega
    have e : simpleE (twoE op x y) = simpleE (.node op 0 [x, y]) := rfl
    rw [e, simple_logic h10, nthE_two0, nthE_two1]
    have hka : argKind op = 1 := by unfold argKind; rw [if_pos (by omega)]
    have hko : kindOf (twoE op x y).op = 1 := by rcases h10 with rfl | rfl <;> rfl
    have hxr : ∀ s, ScOk s → ∀ vs : List Int, (vs.length : Int) = vars → (∀ x ∈ vs, small x = true) → valE s x vs = 0 ∨ valE s x vs = 1 := fun s hs vs h1 h2 => (val_range hs hx vs h1 h2).2.2 (hk.trans hka)
    have hyr : ∀ s, ScOk s → ∀ vs : List Int, (vs.length : Int) = vars → (∀ x ∈ vs, small x = true) → valE s y vs = 0 ∨ valE s y vs = 1 := fun s hs vs h1 h2 => (val_range hs hy vs h1 h2).2.2 (hk2.trans hka)
    split
    · rename_i h0
      have ex := isE_eq.1 h0
      refine ⟨hy, by rw [hko, hk2, hka], by rw [size_two]; omega, by rw [depth_two]; omega, ?_, ?_⟩
      · rw [uses_two]
        have : usesE y &&& (ownUse op ||| (usesE x ||| usesE y)) = usesE y := by rw [← Nat.or_assoc, Nat.or_comm]; exact and_or_left (Nat.and_self _)
        exact this
      · intro s hs vs h1 h2
        rw [valE_two s h4 h11]
        have := hyr s hs vs h1 h2
        rw [ex, val_flag]
        rcases h10 with rfl | rfl
        · show _ = (1 : Int) * valE s y vs; omega
        · show _ = flag (decide (0 < (0 : Int) + valE s y vs))
          rcases this with h | h <;> rw [h] <;> rfl
    split
    · rename_i h0' h0
      have ey := isE_eq.1 h0
      refine ⟨hx, by rw [hko, hk, hka], by rw [size_two]; omega, by rw [depth_two]; omega, ?_, ?_⟩
      · rw [uses_two]
        have : usesE x &&& (ownUse op ||| (usesE x ||| usesE y)) = usesE x := by rw [Nat.or_comm]; exact and_or_left (and_or_left (Nat.and_self _))
        exact this
      · intro s hs vs h1 h2
        rw [valE_two s h4 h11]
        have := hxr s hs vs h1 h2
        rw [ey, val_flag]
        rcases h10 with rfl | rfl
        · show _ = valE s x vs * (1 : Int); omega
        · show _ = flag (decide (0 < valE s x vs + (0 : Int)))
          rcases this with h | h <;> rw [h] <;> rfl
    split
    · rename_i h0' h0'' h0
      refine ⟨.flag _, by rw [hko, kind_flag], by rw [size_two, size_flag]; omega, by rw [depth_two, depth_flag]; omega, by rw [uses_flag]; exact zero_and _, ?_⟩
      intro s hs vs h1 h2
      rw [valE_two s h4 h11, val_flag]
      have hxr := hxr s hs vs h1 h2
      have hyr := hyr s hs vs h1 h2
      rcases h0 with h0 | h0
      · have ex := isE_eq.1 h0
        have hv : valE s x vs = flag (!decide (op = 10)) := by rw [ex, val_flag]
        rw [hv]
        rcases h10 with rfl | rfl
        · show (0 : Int) = 0 * valE s y vs; omega
        · show (1 : Int) = flag (decide (0 < 1 + valE s y vs))
          rw [decide_eq_true (by omega)]; rfl
      · have ey := isE_eq.1 h0
        have hv : valE s y vs = flag (!decide (op = 10)) := by rw [ey, val_flag]
        rw [hv]
        rcases h10 with rfl | rfl
        · show (0 : Int) = valE s x vs * 0; omega
        · show (1 : Int) = flag (decide (0 < valE s x vs + 1))
          rw [decide_eq_true (by omega)]; rfl
    · exact hr

theorem Kept.simple1 {vars op : Int} {x : Ex} (ho : op1 op) (hk : kindOf x.op = argKind op) (hx : Wf (innerV op vars) x) : Kept vars (oneE op x) (simpleE (oneE op x)) := by
  have hw : Wf vars (oneE op x) := .one ho hk hx
  have hr := Kept.refl hw
  have sx := sizeE_pos x
  have dx := depthE_pos x
  have flagc : isE x true = true ∨ isE x false = true → ∃ b, x = flagE b := fun h => h.elim (fun h => ⟨_, isE_eq.1 h⟩) (fun h => ⟨_, isE_eq.1 h⟩)
  by_cases h12 : op = 12
  · subst h12
    have e : simpleE (oneE 12 x) = simpleE (.node 12 0 [x]) := rfl
    rw [e, simple_not, nthE_one]
    split
    · rename_i h0
      refine ⟨.flag _, by rw [kind_flag]; rfl, ?_, ?_, by rw [uses_flag]; exact zero_and _, ?_⟩
      · obtain ⟨b, rfl⟩ := flagc h0
        rw [size_one, size_flag, size_flag]; omega
      · obtain ⟨b, rfl⟩ := flagc h0
        rw [depth_one, depth_flag, depth_flag]; omega
      · intro s _ vs _ _
        rw [valE_not, val_flag]
        obtain ⟨b, rfl⟩ := flagc h0
        rw [val_flag]
        cases b <;> rfl
    · split
      · rename_i h0 h1
        rcases hx.forms with ⟨n, rfl, hs⟩ | ⟨n, rfl, _⟩ | ⟨op', y, rfl, ho', hk', hy⟩ | ⟨op', y, z, rfl, h4, h5, _⟩
        · simp [numE, Ex.op] at h1
        · simp [varE, Ex.op] at h1
        · obtain rfl : op' = 12 := h1
          have hi : innerV 12 vars = vars := rfl
          rw [hi, hi] at hy
          have hn : nthE (oneE 12 y).args 0 = y := rfl
          rw [hn]
          refine ⟨hy, by rw [hk']; rfl, by rw [size_one, size_one]; omega, by rw [depth_one, depth_one]; omega, ?_, ?_⟩
          · rw [uses_one, uses_one]
            show usesE y &&& (0 ||| (0 ||| usesE y)) = usesE y
            simp
          · intro s hs vs h1 h2
            rw [valE_not, valE_not]; omega
        · simp only [twoE, Ex.op] at h1; omega
      · exact hr
  by_cases h13 : op = 13 ∨ op = 14
  · have e : simpleE (oneE op x) = simpleE (.node op 0 [x]) := rfl
    rw [e, simple_quant h13, nthE_one]
    split
    · rename_i h0
      obtain ⟨b, rfl⟩ := flagc h0
      refine ⟨.flag _, ?_, by rw [size_one]; omega, by rw [depth_one]; omega, by rw [uses_flag]; exact zero_and _, ?_⟩
      · rw [kind_flag]; rcases h13 with rfl | rfl <;> rfl
      · intro s hs vs h1 h2
        have h0 := hs.n0
        have hc : ones s (valE s (flagE b)) vs = s.n * flag b := ones_const s (by omega) _ _ _ fun p _ => val_flag s b _
        rcases h13 with rfl | rfl
        · rw [valE_all, val_flag, hc]
          cases b with
          | true => rw [decide_eq_true (by simp [flag])]
          | false => rw [decide_eq_false (by simp [flag]; omega)]
        · rw [valE_some, val_flag, hc]
          cases b with
          | true => rw [decide_eq_true (by simp [flag]; omega)]
          | false => rw [decide_eq_false (by simp [flag])]
    · exact hr
  by_cases h15 : op = 15
  · subst h15
    have e : simpleE (oneE 15 x) = simpleE (.node 15 0 [x]) := rfl
    rw [e, simple_count, nthE_one]
    split
    · rename_i h0
      have ex := isE_eq.1 h0
      refine ⟨.num rfl, rfl, by rw [size_one]; simp [numE, sizeE, sizeL], by rw [depth_one]; simp [numE, depthE, depthL], zero_and _, ?_⟩
      intro s hs vs h1 h2
      have h0 := hs.n0
      rw [valE_count, valE_num, ex, ones_const s (by omega) _ 0 vs fun p _ => val_flag s false _]
      omega
    · exact hr
  · have h3 : op ≤ 4 := by unfold op1 at ho; omega
    unfold oneE; rw [simple_other h3]; exact hr

theorem Kept.fold {vars : Int} {e : Ex} (h : Wf vars e) : Kept vars e (foldE e) := by
  induction h using Wf.rec4 with
  | hn vars n h => rw [fold_num]; exact .refl (.num h)
  | hv vars n h h1 => rw [fold_var]; exact .refl (.var h h1)
  | h1 vars op x ho hk hx ih =>
    rw [fold_one]
    exact (Kept.one ho hk ih).trans (.simple1 ho (ih.kind.trans hk) ih.wf)
  | h2 vars op x y h4 h11 hk hk2 hx hy ih ih2 =>
    rw [fold_two]
    exact (Kept.two h4 h11 hk hk2 ih ih2).trans (.simple2 h4 h11 (ih.kind.trans hk) (ih2.kind.trans hk2) ih.wf ih2.wf)
end Go.Proofs.YthogcbffnbhalaaDoor

