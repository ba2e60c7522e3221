/- Parity, and sums of rows by number: plain data. -/
import Derived.Test.YtijmjliijjkcbaaMxCheck
import Derived.Test.YtijmjliijjkcbaaMxSpan
namespace Go.Proofs.Ytijmjliijjkcbaa
set_option linter.unusedVariables false

/-- How many elements have p, modulo 2. -/
def par (p : Int → Bool) (l : List Int) : Bool := decide (l.countP p % 2 = 1)
theorem par_nil (p : Int → Bool) : par p [] = false := rfl
theorem par_cons (p : Int → Bool) (x : Int) (l : List Int) : par p (x :: l) = (p x ^^ par p l) := by
  unfold par
  rw [List.countP_cons]
  cases p x with
  | false => simp
  | true =>
    simp only [↓reduceIte, Bool.true_xor]
    rcases Nat.mod_two_eq_zero_or_one (l.countP p) with h | h
    · rw [decide_eq_true (by omega), h]; rfl
    · rw [decide_eq_false (by omega), h]; rfl
theorem par_append (p : Int → Bool) (l m : List Int) : par p (l ++ m) = (par p l ^^ par p m) := by
  induction l with
  | nil => rw [List.nil_append, par_nil]; simp
  | cons x l ih => rw [List.cons_append, par_cons, par_cons, ih, Bool.xor_assoc]
theorem par_snoc (p : Int → Bool) (l : List Int) (x : Int) : par p (l ++ [x]) = (par p l ^^ p x) := by
  rw [par_append, par_cons, par_nil, Bool.xor_false]
theorem par_congr {p q : Int → Bool} {l : List Int} (h : ∀ x ∈ l, p x = q x) : par p l = par q l := by
  induction l with
  | nil => rfl
  | cons x l ih => rw [par_cons, par_cons, h x (by simp), ih fun y hy => h y (by simp [hy])]
theorem par_xor (p q : Int → Bool) (l : List Int) : par (fun x => p x ^^ q x) l = (par p l ^^ par q l) := by
  induction l with
  | nil => rfl
  | cons x l ih =>
    rw [par_cons, par_cons, par_cons, ih]
    cases p x <;> cases q x <;> cases par p l <;> cases par q l <;> rfl
theorem par_none {p : Int → Bool} {l : List Int} (h : ∀ x ∈ l, p x = false) : par p l = false := by
  rw [par_congr (q := fun _ => false) h]
  induction l with
  | nil => rfl
  | cons x l ih => rw [par_cons, ih fun y hy => h y (by simp [hy])]; rfl
theorem par_xorL (p : Int → Bool) (a b : List Int) : par p (xorL a b) = (par p a ^^ par p b) := by
  induction a, b using xorL.induct with
  | case1 b => rw [xorL_nil_left, par_nil, Bool.false_xor]
  | case2 x a => rw [xorL_nil_right, par_nil, Bool.xor_false]
  | case3 x a y b h ih => rw [xorL_cons, if_pos h, par_cons, ih, par_cons p x a, Bool.xor_assoc]
  | case4 x a y b h h2 ih =>
    rw [xorL_cons, if_neg h, if_pos h2, par_cons, ih, par_cons p y b]
    cases p y <;> cases par p (x :: a) <;> cases par p b <;> rfl
  | case5 x a y b h h2 ih =>
    obtain rfl : x = y := by omega
    rw [xorL_cons, if_neg h, if_neg h2, ih, par_cons, par_cons]
    cases p x <;> cases par p a <;> cases par p b <;> rfl

def memB (b : List Int) (x : Int) : Bool := decide (x ∈ b)
/-- An odd number of elements of a lies in b. -/
def oddV (a b : List Int) : Bool := par (memB b) a
theorem memB_xorL {a b : List Int} (ha : Ord a) (hb : Ord b) (x : Int) : memB (xorL a b) x = (memB a x ^^ memB b x) := by
  unfold memB
  have := mem_xorL ha hb x
  by_cases h1 : x ∈ a <;> by_cases h2 : x ∈ b <;> simp only [h1, h2, iff_self, not_true, iff_true, iff_false, not_false_iff, true_iff, iff_true, true_iff] at this <;> simp [h1, h2, this]
theorem oddV_xor_left (a c b : List Int) : oddV (xorL a c) b = (oddV a b ^^ oddV c b) := par_xorL _ _ _
theorem oddV_xor_right {a b c : List Int} (hb : Ord b) (hc : Ord c) : oddV a (xorL b c) = (oddV a b ^^ oddV a c) := by
  unfold oddV
  rw [← par_xor]
  exact par_congr fun x _ => memB_xorL hb hc x
/-- The parity over an ordered list of what is in an ordered list: of the ones that both have. -/
theorem par_and {a b : List Int} (ha : Ord a) (hb : Ord b) (f : Int → Bool) : par (fun x => f x && memB b x) a = par (fun x => f x && memB a x) b := by
  unfold Ord at *
  induction a, b using xorL.induct with
  | case1 b => rw [par_nil, par_none fun x _ => by simp [memB]]
  | case2 x a => rw [par_nil, par_none fun x _ => by simp [memB]]
  | case3 x a y b h ih =>
    have ha' := List.pairwise_cons.1 ha
    have hb' := List.pairwise_cons.1 hb
    have hx : memB (y :: b) x = false := by
      simp only [memB, decide_eq_false_iff_not, List.mem_cons, not_or]
      exact ⟨by omega, fun hm => by have := hb'.1 x hm; omega⟩
    rw [par_cons, hx, Bool.and_false, Bool.false_xor, ih ha'.2 hb]
    refine par_congr fun z hz => ?_
    have : z ≠ x := by
      rintro rfl
      rcases List.mem_cons.1 hz with rfl | hz
      · omega
      · have := hb'.1 z hz; omega
    simp [memB, this]
  | case4 x a y b h h2 ih =>
    have ha' := List.pairwise_cons.1 ha
    have hb' := List.pairwise_cons.1 hb
    have hy : memB (x :: a) y = false := by
      simp only [memB, decide_eq_false_iff_not, List.mem_cons, not_or]
      exact ⟨by omega, fun hm => by have := ha'.1 y hm; omega⟩
    rw [par_cons _ y b, hy, Bool.and_false, Bool.false_xor, ← ih ha hb'.2]
    refine par_congr fun z hz => ?_
    have : z ≠ y := by
      rintro rfl
      rcases List.mem_cons.1 hz with rfl | hz
      · omega
      · have := ha'.1 z hz; omega
    simp [memB, this]
  | case5 x a y b h h2 ih =>
    have ha' := List.pairwise_cons.1 ha
    have hb' := List.pairwise_cons.1 hb
    obtain rfl : x = y := by omega
    have e1 : par (fun z => f z && memB (x :: b) z) a = par (fun z => f z && memB b z) a := par_congr fun z hz => by
      have := ha'.1 z hz
      have : z ≠ x := by omega
      simp [memB, this]
    have e2 : par (fun z => f z && memB (x :: a) z) b = par (fun z => f z && memB a z) b := par_congr fun z hz => by
      have := hb'.1 z hz
      have : z ≠ x := by omega
      simp [memB, this]
    rw [par_cons, par_cons, e1, e2, ih ha'.2 hb'.2]
    simp [memB]
theorem oddV_comm {a b : List Int} (ha : Ord a) (hb : Ord b) : oddV a b = oddV b a := by
  have := par_and ha hb (fun _ => true)
  simp only [Bool.true_and] at this
  exact this
theorem oddV_nil_left (b : List Int) : oddV [] b = false := rfl
theorem oddV_nil_right (a : List Int) : oddV a [] = false := par_none fun x _ => by simp [memB]
/-- The length of a sum. -/
theorem length_xorL {a b : List Int} (ha : Ord a) (hb : Ord b) : (xorL a b).length + 2 * a.countP (memB b) = a.length + b.length := by
  unfold Ord at *
  induction a, b using xorL.induct with
  | case1 b => rw [xorL_nil_left]; simp
  | case2 x a =>
    rw [xorL_nil_right, show (x :: a).countP (memB []) = 0 from by rw [List.countP_eq_zero]; intro z _; simp [memB]]; simp
  | case3 x a y b h ih =>
    have ha' := List.pairwise_cons.1 ha
    have hb' := List.pairwise_cons.1 hb
    have hx : memB (y :: b) x = false := by
      simp only [memB, decide_eq_false_iff_not, List.mem_cons, not_or]
      exact ⟨by omega, fun hm => by have := hb'.1 x hm; omega⟩
    have := ih ha'.2 hb
    rw [xorL_cons, if_pos h, List.countP_cons, hx]
    simp only [List.length_cons, Bool.false_eq_true, ↓reduceIte] at this ⊢
    omega
  | case4 x a y b h h2 ih =>
    have ha' := List.pairwise_cons.1 ha
    have hb' := List.pairwise_cons.1 hb
    have := ih ha hb'.2
    rw [xorL_cons, if_neg h, if_pos h2]
    have e : (x :: a).countP (memB (y :: b)) = (x :: a).countP (memB b) := List.countP_congr fun z hz => by
      have : z ≠ y := by
        rintro rfl
        rcases List.mem_cons.1 hz with rfl | hz
        · omega
        · have := ha'.1 z hz; omega
      simp [memB, this]
    rw [e]
    simp only [List.length_cons] at this ⊢
    omega
  | case5 x a y b h h2 ih =>
    have ha' := List.pairwise_cons.1 ha
    have hb' := List.pairwise_cons.1 hb
    obtain rfl : x = y := by omega
    have := ih ha'.2 hb'.2
    have e : a.countP (memB (x :: b)) = a.countP (memB b) := List.countP_congr fun z hz => by
      have := ha'.1 z hz
      have : z ≠ x := by omega
      simp [memB, this]
    rw [xorL_cons, if_neg h, if_neg h2, List.countP_cons, e]
    simp only [List.length_cons, memB, List.mem_cons, true_or, decide_true, ↓reduceIte] at this ⊢
    omega
/-- How the program tells it. -/
theorem oddV_len {a b : List Int} (ha : Ord a) (hb : Ord b) : oddV a b = decide ((a.length + b.length - (xorL a b).length) / 2 % 2 = 1) := by
  have := length_xorL ha hb
  have e : (a.length + b.length - (xorL a b).length) / 2 = a.countP (memB b) := by omega
  rw [e]
  rfl

/-- The sum of the rows with these numbers. -/
def sumRows (R : List (List Int)) (y : List Int) : List Int := y.foldl (fun acc k => xorL acc (nthL R k.toNat)) []
theorem sumRows_nil (R : List (List Int)) : sumRows R [] = [] := rfl
theorem sumRows_snoc (R : List (List Int)) (y : List Int) (k : Int) : sumRows R (y ++ [k]) = xorL (sumRows R y) (nthL R k.toNat) := by unfold sumRows; rw [List.foldl_append]; rfl
theorem nthL_ord {R : List (List Int)} (hR : Rows R) (k : Nat) : Ord (nthL R k) := by
  rcases Nat.lt_or_ge k R.length with h | h
  · exact hR _ (nthL_mem h)
  · rw [show nthL R k = [] from by simp [nthL, List.getElem?_eq_none h]]; exact .nil
theorem snoc_ind {P : List Int → Prop} (h0 : P []) (h1 : ∀ y k, P y → P (y ++ [k])) (y : List Int) : P y := by
  have key : ∀ n, ∀ y : List Int, y.length = n → P y := by
    intro n
    induction n with
    | zero => intro y hy; rw [List.length_eq_zero_iff.1 hy]; exact h0
    | succ n ih =>
      intro y hy
      have hne : y ≠ [] := fun e => by rw [e] at hy; simp at hy
      rw [← List.dropLast_concat_getLast hne]
      exact h1 _ _ (ih _ (by simp [hy]))
  exact key _ y rfl
theorem sumRows_ord {R : List (List Int)} (hR : Rows R) (y : List Int) : Ord (sumRows R y) :=
  snoc_ind (P := fun y => Ord (sumRows R y)) .nil (fun y k h => by show Ord (sumRows R (y ++ [k])); rw [sumRows_snoc]; exact xorL_ord h (nthL_ord hR _)) y
/-- Any parity over a sum of rows. -/
theorem par_sumRows (p : Int → Bool) (R : List (List Int)) (y : List Int) : par p (sumRows R y) = par (fun k => par p (nthL R k.toNat)) y :=
  snoc_ind (P := fun y => par p (sumRows R y) = par (fun k => par p (nthL R k.toNat)) y) rfl (fun y k h => by
    show par p (sumRows R (y ++ [k])) = _
    rw [sumRows_snoc, par_xorL, h, par_snoc]) y
theorem memB_sumRows {R : List (List Int)} (hR : Rows R) (y : List Int) (z : Int) : memB (sumRows R y) z = par (fun k => memB (nthL R k.toNat) z) y :=
  snoc_ind (P := fun y => memB (sumRows R y) z = par (fun k => memB (nthL R k.toNat) z) y) rfl (fun y k h => by
    show memB (sumRows R (y ++ [k])) z = _
    rw [sumRows_snoc, memB_xorL (sumRows_ord hR y) (nthL_ord hR _), h, par_snoc]) y
theorem sumRows_xor {R : List (List Int)} (hR : Rows R) (x y : List Int) : sumRows R (xorL x y) = xorL (sumRows R x) (sumRows R y) := by
  refine ord_ext (sumRows_ord hR _) (xorL_ord (sumRows_ord hR _) (sumRows_ord hR _)) fun z => ?_
  have h1 := memB_sumRows hR (xorL x y) z
  rw [par_xorL, ← memB_sumRows hR, ← memB_sumRows hR, ← memB_xorL (sumRows_ord hR _) (sumRows_ord hR _)] at h1
  have : z ∈ sumRows R (xorL x y) ↔ memB (sumRows R (xorL x y)) z = true := by simp [memB]
  rw [this, h1]; simp [memB]
theorem sumRows_sp {R : List (List Int)} (hR : Rows R) (y : List Int) : Sp R (sumRows R y) :=
  snoc_ind (P := fun y => Sp R (sumRows R y)) .nil (fun y k h => by
    show Sp R (sumRows R (y ++ [k]))
    rw [sumRows_snoc]
    refine h.xor hR ?_
    rcases Nat.lt_or_ge k.toNat R.length with h1 | h1
    · exact .mem (nthL_mem h1)
    · rw [show nthL R k.toNat = [] from by simp [nthL, List.getElem?_eq_none h1]]; exact .nil) y
theorem sumRows_one (R : List (List Int)) (k : Int) : sumRows R [k] = nthL R k.toNat := by show xorL [] _ = _; rw [xorL_nil_left]
/-- Numbers below n, in order. -/
def InR (n : Nat) (y : List Int) : Prop := Ord y ∧ ∀ x ∈ y, 0 ≤ x ∧ x < n
theorem InR.xor {n : Nat} {x y : List Int} (hx : InR n x) (hy : InR n y) : InR n (xorL x y) :=
  ⟨xorL_ord hx.1 hy.1, fun z hz => (xorL_sub z hz).elim (hx.2 z) (hy.2 z)⟩
theorem InR.one {n k : Nat} (h : k < n) : InR n [(k : Int)] := ⟨List.pairwise_singleton _ _, fun x hx => by rw [List.mem_singleton.1 hx]; omega⟩
theorem InR.nil (n : Nat) : InR n [] := ⟨.nil, fun x hx => by simp at hx⟩
/-- Each sum is one by number. -/
theorem Sp.numbers {R : List (List Int)} (hR : Rows R) {v : List Int} (h : Sp R v) : ∃ y, InR R.length y ∧ v = sumRows R y := by
  induction h with
  | nil => exact ⟨[], .nil _, rfl⟩
  | add hv hw ih =>
    obtain ⟨y, hy, rfl⟩ := ih
    obtain ⟨k, hk, rfl⟩ := List.getElem_of_mem hv
    refine ⟨xorL [(k : Int)] y, (InR.one hk).xor hy, ?_⟩
    rw [sumRows_xor hR, sumRows_one, show ((k : Int)).toNat = k by omega, nthL_eq hk]
end Go.Proofs.Ytijmjliijjkcbaa
