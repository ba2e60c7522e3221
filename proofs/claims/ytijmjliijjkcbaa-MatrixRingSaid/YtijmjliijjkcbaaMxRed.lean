/- Elimination, as the program does it: plain data. -/
import Derived.Test.YtijmjliijjkcbaaMxRowsA
namespace Go.Proofs.Ytijmjliijjkcbaa
set_option linter.unusedVariables false

/-- A row, with the numbers of the rows whose sum it is. -/
abbrev Ln := List Int × List Int
def addL (x l : Ln) : Ln := (xorL x.1 l.1, xorL x.2 l.2)
/-- The loop that strikes leading columns. -/
def redP (M : Int → Option Ln) : Nat → Nat → Ln → Ln
  | 0, _, x => x
  | n + 1, k, x => if k < x.1.length then (match M (nth x.1 k) with | none => redP M n (k + 1) x | some l => redP M n k (addL x l)) else x
theorem redP_done {M : Int → Option Ln} {n k : Nat} {x : Ln} (h : x.1.length ≤ k) : redP M n k x = x := by
  cases n with
  | zero => rfl
  | succ n => rw [redP, if_neg (by omega)]
theorem redP_skip {M : Int → Option Ln} {n k : Nat} {x : Ln} (h : k < x.1.length) (hm : M (nth x.1 k) = none) : redP M (n + 1) k x = redP M n (k + 1) x := by rw [redP, if_pos h, hm]
theorem redP_step {M : Int → Option Ln} {n k : Nat} {x l : Ln} (h : k < x.1.length) (hm : M (nth x.1 k) = some l) : redP M (n + 1) k x = redP M n k (addL x l) := by rw [redP, if_pos h, hm]
theorem redP_ind {M : Int → Option Ln} (Q : Ln → Prop) (hs : ∀ x l c, Q x → M c = some l → Q (addL x l)) : ∀ n k x, Q x → Q (redP M n k x) := by
  intro n
  induction n with
  | zero => intro k x h; exact h
  | succ n ih =>
    intro k x h
    by_cases hk : k < x.1.length
    · cases hm : M (nth x.1 k) with
      | none => rw [redP_skip hk hm]; exact ih _ _ h
      | some l => rw [redP_step hk hm]; exact ih _ _ (hs x l _ h hm)
    · rw [redP_done (by omega)]; exact h

/-- A line within bounds. -/
structure GL (c : Int) (N : Nat) (l : Ln) : Prop where
  o1 : Ord l.1
  r1 : ∀ x ∈ l.1, 0 ≤ x ∧ x < c
  o2 : Ord l.2
  r2 : ∀ x ∈ l.2, 0 ≤ x ∧ x < N
theorem GL.add {c : Int} {N : Nat} {x l : Ln} (hx : GL c N x) (hl : GL c N l) : GL c N (addL x l) :=
  ⟨xorL_ord hx.o1 hl.o1, fun z hz => (xorL_sub z hz).elim (hx.r1 z) (hl.r1 z), xorL_ord hx.o2 hl.o2, fun z hz => (xorL_sub z hz).elim (hx.r2 z) (hl.r2 z)⟩
theorem GL.mono {c : Int} {N N' : Nat} {l : Ln} (h : GL c N l) (hn : N ≤ N') : GL c N' l := ⟨h.o1, h.r1, h.o2, fun x hx => by have := h.r2 x hx; omega⟩
/-- Lines at their leading columns. -/
structure GM (c : Int) (N : Nat) (M : Int → Option Ln) : Prop where
  gl : ∀ z l, M z = some l → GL c N l
  ne : ∀ z l, M z = some l → l.1 ≠ []
  ld : ∀ z l, M z = some l → lead l.1 = z
theorem GM.rng {c : Int} {N : Nat} {M : Int → Option Ln} (h : GM c N M) {z : Int} {l : Ln} (hz : M z = some l) : 0 ≤ z ∧ z < c := by
  have := (h.gl z l hz).r1 _ (lead_mem (h.ne z l hz))
  rwa [h.ld z l hz] at this
theorem GM.le {c : Int} {N : Nat} {M : Int → Option Ln} (h : GM c N M) {z : Int} {l : Ln} (hz : M z = some l) {y : Int} (hy : y ∈ l.1) : z ≤ y := by
  have := lead_le (h.gl z l hz).o1 hy
  rwa [h.ld z l hz] at this

theorem xorL_app {p a b : List Int} (h : ∀ x ∈ p, ∀ y ∈ b, x < y) : xorL (p ++ a) b = p ++ xorL a b := by
  induction p with
  | nil => rfl
  | cons x p ih =>
    have ih := ih fun y hy => h y (by simp [hy])
    cases b with
    | nil => rw [xorL_nil_right, xorL_nil_right]
    | cons y b =>
      rw [List.cons_append, xorL_cons, if_pos (h x (by simp) y (by simp)), ih]; rfl
/-- What one addition does: nothing ahead of place k, and behind it all is greater. -/
theorem add_at {c : Int} {N : Nat} {M : Int → Option Ln} (hM : GM c N M) {x l : Ln} (hx : Ord x.1) {k : Nat} (hk : k < x.1.length) (hm : M (nth x.1 k) = some l) :
    (addL x l).1.take k = x.1.take k ∧ ∀ y ∈ (addL x l).1.drop k, nth x.1 k < y := by
  obtain ⟨z, hz⟩ : ∃ z, z = nth x.1 k := ⟨_, rfl⟩
  have hg := hM.gl _ _ hm
  have hne := hM.ne _ _ hm
  have hld := hM.ld _ _ hm
  rw [← hz] at hld hm ⊢
  have hsplit : x.1 = x.1.take k ++ z :: x.1.drop (k + 1) := by rw [hz, ← drop_nth hk, List.take_append_drop]
  obtain ⟨t, ht⟩ : ∃ t, l.1 = z :: t := by
    cases h : l.1 with
    | nil => exact absurd h hne
    | cons y t => rw [h] at hld; simp [lead] at hld; exact ⟨t, by rw [hld]⟩
  have hxo : (x.1.take k ++ z :: x.1.drop (k + 1)).Pairwise (· < ·) := hsplit ▸ hx
  rw [List.pairwise_append] at hxo
  have hto : (z :: t).Pairwise (· < ·) := ht ▸ hg.o1
  have e : (addL x l).1 = x.1.take k ++ xorL (x.1.drop (k + 1)) t := by
    show xorL x.1 l.1 = _
    conv => lhs; rw [hsplit]
    rw [ht, xorL_app, xorL_cons, if_neg (by omega), if_neg (by omega)]
    intro y hy w hw
    have h1 := hxo.2.2 y hy z (by simp)
    rcases List.mem_cons.1 hw with rfl | hw
    · exact h1
    · have := (List.pairwise_cons.1 hto).1 w hw; omega
  have hlen : (x.1.take k).length = k := by rw [List.length_take]; omega
  rw [e]
  refine ⟨by rw [List.take_append_of_le_length (by omega), List.take_of_length_le (by omega)], fun y hy => ?_⟩
  rw [List.drop_append_of_le_length (by omega), List.drop_of_length_le (by omega), List.nil_append] at hy
  rcases xorL_sub y hy with h1 | h1
  · exact (List.pairwise_cons.1 hxo.2.1).1 y h1
  · exact (List.pairwise_cons.1 hto).1 y h1

/-- How far the loop still is from its end. -/
def muP (c : Int) (k : Nat) (x : Ln) : Nat := if k < x.1.length then (c - nth x.1 k).toNat else 0
theorem mu_skip {c : Int} {N : Nat} {k : Nat} {x : Ln} (hx : GL c N x) (hk : k < x.1.length) : muP c (k + 1) x < muP c k x := by
  have h1 := hx.r1 _ (nth_mem hk)
  unfold muP
  rw [if_pos hk]
  split
  · rename_i h
    have := List.pairwise_iff_getElem.1 hx.o1 k (k + 1) hk h (by omega)
    rw [← nth_eq hk, ← nth_eq h] at this
    omega
  · omega
theorem mu_step {c : Int} {N N' : Nat} {M : Int → Option Ln} (hM : GM c N M) {k : Nat} {x l : Ln} (hx : GL c N' x) (hk : k < x.1.length) (hm : M (nth x.1 k) = some l) : muP c k (addL x l) < muP c k x := by
  have h1 := hx.r1 _ (nth_mem hk)
  unfold muP
  rw [if_pos hk]
  split
  · rename_i h
    have := (add_at hM hx.o1 hk hm).2 (nth (addL x l).1 k) (by rw [drop_nth h]; simp)
    omega
  · omega
/-- Behind the loop no leading column is left. -/
theorem redP_none {c : Int} {N N' : Nat} {M : Int → Option Ln} (hM : GM c N M) (hN : N ≤ N') : ∀ n k x, GL c N' x → muP c k x < n → (∀ z ∈ x.1.take k, M z = none) → ∀ z ∈ (redP M n k x).1, M z = none := by
  intro n
  induction n with
  | zero => intro k x _ h; omega
  | succ n ih =>
    intro k x hx hmu hp
    by_cases hk : k < x.1.length
    · cases hm : M (nth x.1 k) with
      | none =>
        rw [redP_skip hk hm]
        refine ih _ _ hx (by have := mu_skip hx hk; omega) fun z hz => ?_
        rw [take_nth hk] at hz
        rcases List.mem_append.1 hz with h | h
        · exact hp z h
        · rw [List.mem_singleton.1 h]; exact hm
      | some l =>
        rw [redP_step hk hm]
        refine ih _ _ (hx.add ((hM.gl _ _ hm).mono hN)) (by have := mu_step hM hx hk hm; omega) fun z hz => ?_
        rw [(add_at hM hx.o1 hk hm).1] at hz
        exact hp z hz
    · rw [redP_done (by omega)]
      intro z hz
      exact hp z (by rw [List.take_of_length_le (by omega)]; exact hz)

/-- A new line, struck out of the others. -/
def insM (M : Int → Option Ln) (x : Ln) : Int → Option Ln := fun c => if c = lead x.1 then some x else (M c).map (fun l => if memB l.1 (lead x.1) = true then addL l x else l)
def fuelP : Nat := 100001
def echX (s : (Int → Option Ln) × List (List Int)) (i : Nat) (row : List Int) : Ln := redP s.1 fuelP 0 (row, [(i : Int)])
def echStep (s : (Int → Option Ln) × List (List Int)) (i : Nat) (row : List Int) : (Int → Option Ln) × List (List Int) :=
  if (echX s i row).1.length = 0 then (s.1, s.2 ++ [(echX s i row).2]) else (insM s.1 (echX s i row), s.2)
def echTo (R : List (List Int)) : Nat → (Int → Option Ln) × List (List Int)
  | 0 => (fun _ => none, [])
  | k + 1 => echStep (echTo R k) k (nthL R k)
def outTo (M : Int → Option Ln) (n : Nat) : List Ln := (List.range n).filterMap fun c => M (c : Nat)
theorem outTo_succ (M : Int → Option Ln) (n : Nat) : outTo M (n + 1) = outTo M n ++ (match M (n : Nat) with | some l => [l] | none => []) := by
  unfold outTo
  rw [List.range_succ, List.filterMap_append]
  congr 1
  cases h : M (n : Nat) <;> simp [h]
theorem mem_outTo {M : Int → Option Ln} {n : Nat} {l : Ln} : l ∈ outTo M n ↔ ∃ c : Nat, c < n ∧ M (c : Nat) = some l := by
  unfold outTo
  rw [List.mem_filterMap]
  constructor
  · rintro ⟨c, hc, h⟩; exact ⟨c, List.mem_range.1 hc, h⟩
  · rintro ⟨c, hc, h⟩; exact ⟨c, List.mem_range.2 hc, h⟩
end Go.Proofs.Ytijmjliijjkcbaa
