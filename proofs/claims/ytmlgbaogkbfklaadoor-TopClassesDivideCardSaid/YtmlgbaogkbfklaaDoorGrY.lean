/- The classes of small partitions as sets: plain laws. -/
import Derived.Test.YtmlgbaogkbfklaaDoorJoin
import Derived.Test.YtmlgbaogkbfklaaDoorClasses
import Derived.Test.YtmlgbaogkbfklaaDoorGrK
namespace Go.Proofs.YtmlgbaogkbfklaaDoor
set_option linter.unusedVariables false

theorem numS_labs {K : Type} [DecidableEq K] (l : List K) : numS (labs l) = (firsts l).length := by
  have key : ∀ (n : Nat) (l : List K), l.length = n → numS (labs l) = (firsts l).length := by
    intro n
    induction n with
    | zero => intro l hl; have := List.eq_nil_of_length_eq_zero hl; subst this; rfl
    | succ n ih =>
      intro l hl
      obtain ⟨m, x, rfl⟩ : ∃ m x, l = m ++ [x] := ⟨l.dropLast, l.getLast (by intro h; subst h; simp at hl), (List.dropLast_concat_getLast _).symm⟩
      have hm := ih m (by simpa using hl)
      rw [labs_snoc, numS_snoc, hm]
      by_cases h : x ∈ m
      · rw [lab_snoc h, firsts_old h]
        have := lab_lt h
        omega
      · rw [lab_new h, firsts_new h]
        simp; omega
  exact key _ l rfl
theorem take_labs {K : Type} [DecidableEq K] (l : List K) : ∀ k, (labs l).take k = labs (l.take k) := by
  have key : ∀ (n : Nat) (l : List K), l.length = n → ∀ k, (labs l).take k = labs (l.take k) := by
    intro n
    induction n with
    | zero => intro l hl k; have := List.eq_nil_of_length_eq_zero hl; subst this; simp [labs]
    | succ n ih =>
      intro l hl k
      obtain ⟨m, x, rfl⟩ : ∃ m x, l = m ++ [x] := ⟨l.dropLast, l.getLast (by intro h; subst h; simp at hl), (List.dropLast_concat_getLast _).symm⟩
      have hmn : m.length = n := by simpa using hl
      by_cases hk : k ≤ n
      · rw [labs_snoc, List.take_append_of_le_length (by simp; omega), List.take_append_of_le_length (by omega)]
        exact ih m hmn k
      · rw [List.take_of_length_le (by simp; omega), List.take_of_length_le (by simp; omega)]
  exact key _ l rfl
theorem good_labs {K : Type} [DecidableEq K] {l : List K} (h : l.length ≤ 65536) : Good (labs l) := by
  refine ⟨by simpa using h, fun i hi => ?_⟩
  simp at hi
  have e1 : (labs l).take (i + 1) = (labs l).take i ++ [nth (labs l) i] := take_nth (by simpa using hi)
  rw [take_labs, take_labs, List.take_succ_eq_append_getElem hi, labs_snoc] at e1
  have e2 := List.append_cancel_left e1
  simp only [List.cons.injEq, and_true] at e2
  rw [take_labs, numS_labs, ← e2]
  by_cases hm : l[i] ∈ l.take i
  · rw [lab_snoc hm]
    have := lab_lt hm
    omega
  · rw [lab_new hm]; omega

/-- The well-formed partitions of n elements. -/
def rgs : Nat → List (List Int)
  | 0 => [[]]
  | n + 1 => (rgs n).flatMap fun l => (List.range ((numS l).toNat + 1)).map fun x : Nat => l ++ [(x : Int)]
theorem good_front {l : List Int} {x : Int} (h : Good (l ++ [x])) : Good l ∧ 0 ≤ x ∧ x ≤ numS l := by
  obtain ⟨h1, h2⟩ := h
  simp at h1
  refine ⟨⟨by omega, fun i hi => ?_⟩, ?_⟩
  · have := h2 i (by simp; omega)
    rw [nth_snoc_old hi, List.take_append_of_le_length (by omega)] at this
    exact this
  · have := h2 l.length (by simp)
    rw [nth_snoc_new, List.take_left] at this
    exact this
theorem mem_rgs : ∀ (n : Nat) (l : List Int), l.length = n → Good l → l ∈ rgs n
  | 0, l, hl, _ => by rw [List.eq_nil_of_length_eq_zero hl]; simp [rgs]
  | n + 1, l, hl, hg => by
    obtain ⟨m, x, rfl⟩ : ∃ m x, l = m ++ [x] := ⟨l.dropLast, l.getLast (by intro h; subst h; simp at hl), (List.dropLast_concat_getLast _).symm⟩
    obtain ⟨h1, h2, h3⟩ := good_front hg
    unfold rgs
    rw [List.mem_flatMap]
    refine ⟨m, mem_rgs n m (by simpa using hl) h1, List.mem_map.2 ⟨x.toNat, List.mem_range.2 (by omega), ?_⟩⟩
    rw [Int.toNat_of_nonneg h2]

/-- The classes of a partition as sets. -/
def setsN (l : List Int) : List Nat := (classesS l).map fun c => setN (c.map Int.toNat)
/-- The intersections of sets that are not empty. -/
def wantN (x y : List Nat) : List Nat := x.flatMap fun c => (y.map fun d => c &&& d).filter fun e => e != 0
def sumOK (n : Nat) (a : List Int) : Bool := ((setsN a).foldl (· + ·) 0 == 2 ^ n - 1) && (setsN a).all fun c => decide (c < 32)
def meetOK (a b : List Int) : Bool := (wantN (setsN a) (setsN b)).isPerm (setsN (labs (a.zip b)))
def insideOK (a r : List Int) : Bool := !((List.range a.length).all fun i => (List.range a.length).all fun j => nth a i != nth a j || nth r i == nth r j) || (setsN a).all fun c => (setsN r).all fun s => c &&& s == 0 || c &&& s == c
set_option maxRecDepth 100000 in
theorem sums_ok : ((List.range 6).all fun n => (rgs n).all fun a => sumOK n a) = true := by decide +kernel
set_option maxRecDepth 100000 in
theorem meets_ok : ((List.range 6).all fun n => (rgs n).all fun a => (rgs n).all fun b => meetOK a b) = true := by decide +kernel
set_option maxRecDepth 100000 in
theorem insides_ok : ((List.range 6).all fun n => (rgs n).all fun a => (rgs n).all fun b => insideOK a b) = true := by decide +kernel

theorem sets_sum {a : List Int} (h : Good a) (h5 : a.length ≤ 5) : (setsN a).foldl (· + ·) 0 = 2 ^ a.length - 1 ∧ ∀ c ∈ setsN a, c < 32 := by
  have := List.all_eq_true.1 (List.all_eq_true.1 sums_ok a.length (by simp; omega)) a (mem_rgs _ a rfl h)
  simpa [sumOK] using this
theorem sets_meet {a b : List Int} (ha : Good a) (hb : Good b) (hl : b.length = a.length) (h5 : a.length ≤ 5) : (wantN (setsN a) (setsN b)).Perm (setsN (labs (a.zip b))) := by
  have := List.all_eq_true.1 (List.all_eq_true.1 (List.all_eq_true.1 meets_ok a.length (by simp; omega)) a (mem_rgs _ a rfl ha)) b (mem_rgs _ b hl hb)
  exact List.isPerm_iff.1 this
theorem sets_inside {a r : List Int} (ha : Good a) (hr : Good r) (hl : r.length = a.length) (h5 : a.length ≤ 5) (hf : ∀ i j, i < a.length → j < a.length → nth a i = nth a j → nth r i = nth r j) :
    ∀ c ∈ setsN a, ∀ s ∈ setsN r, c &&& s = 0 ∨ c &&& s = c := by
  have := List.all_eq_true.1 (List.all_eq_true.1 (List.all_eq_true.1 insides_ok a.length (by simp; omega)) a (mem_rgs _ a rfl ha)) r (mem_rgs _ r hl hr)
  unfold insideOK at this
  rw [Bool.or_eq_true] at this
  rcases this with h | h
  · exfalso
    simp only [Bool.not_eq_true'] at h
    have : ((List.range a.length).all fun i => (List.range a.length).all fun j => nth a i != nth a j || nth r i == nth r j) = true := by
      rw [List.all_eq_true]
      intro i hi
      rw [List.all_eq_true]
      intro j hj
      simp only [List.mem_range] at hi hj
      by_cases he : nth a i = nth a j
      · simp [hf i j hi hj he]
      · simp [he]
    rw [h] at this
    cases this
  · intro c hc s hs
    have := List.all_eq_true.1 (List.all_eq_true.1 h c hc) s hs
    simpa using this
/-- What the classes of a partition are made of. -/
theorem class_ok {l : List Int} {c : List Int} (hc : c ∈ classesS l) : ∃ d : List Nat, c = d.map (Nat.cast : Nat → Int) ∧ (∀ p ∈ d, p < l.length) ∧ d.Nodup := by
  unfold classesS at hc
  obtain ⟨k, _, rfl⟩ := List.mem_map.1 hc
  refine ⟨(List.range l.length).filter fun i => nth l i == (k : Int), rfl, fun p hp => ?_, ?_⟩
  · have := (List.mem_filter.1 hp).1
    simpa using this
  · exact List.nodup_range.filter _
theorem toNat_casts (d : List Nat) : (d.map (Nat.cast : Nat → Int)).map Int.toNat = d := by
  rw [List.map_map]
  conv => rhs; rw [← List.map_id d]
  apply List.map_congr_left
  intro x _
  simp
end Go.Proofs.YtmlgbaogkbfklaaDoor
