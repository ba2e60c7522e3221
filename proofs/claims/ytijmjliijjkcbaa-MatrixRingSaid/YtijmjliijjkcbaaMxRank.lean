/- The rank of the transpose; what the statements say, in plain data. -/
import Derived.Test.YtijmjliijjkcbaaMxDec
namespace Go.Proofs.Ytijmjliijjkcbaa
set_option linter.unusedVariables false

theorem fewM_cols {m : Mx} (h : fewM m = true) (hc : MOk m) : m.cols ≤ 14 ∧ m.rows.length ≤ 14 := by
  have h0 := hc.c0
  have h1 := hc.c1
  have h2 := hc.r1
  unfold fewM oddSize at h
  rw [decide_eq_false (by omega), decide_eq_false (by omega), decide_eq_false (by omega)] at h
  simp at h
  exact ⟨h.2.2, h.2.1⟩
theorem sol_cases {m : Mx} {b x y : List Int} {q : Bool} {e : Int} (h : solS m b = ((x, y), (q, e))) : (e ≠ 0 ∧ y = []) ∨ (e = 0 ∧ q = true ∧ y = []) ∨ (e = 0 ∧ q = false ∧ verS m b y = 0) := by
  by_cases h1 : checkM m = 0
  · by_cases h2 : vecE m.rows.length b = 0
    · cases hd : solD m b with
      | some d =>
        rw [solS_dep h1 h2 hd] at h
        injection h with a b
        injection a with a1 a2
        injection b with b1 b2
        exact .inr (.inr ⟨b2.symm, b1.symm, by rw [← a2]; exact solD_ver (checkM_zero.1 h1) (vecE_inR.1 h2) hd⟩)
      | none =>
        rw [solS_ok h1 h2 hd] at h
        injection h with a b
        injection a with a1 a2
        injection b with b1 b2
        exact .inr (.inl ⟨b2.symm, b1.symm, a2.symm⟩)
    · rw [solS_vec h1 h2] at h
      injection h with a b
      injection a with a1 a2
      injection b with b1 b2
      exact .inl ⟨by rw [← b2]; exact h2, a2.symm⟩
  · rw [solS_err h1] at h
    injection h with a b
    injection a with a1 a2
    injection b with b1 b2
    exact .inl ⟨by rw [← b2]; exact h1, a2.symm⟩

theorem rank_le {m : Mx} (h : MOk m) {G : List (List Int)} (hG : MOk ⟨m.cols, G⟩) (hs : ∀ r ∈ m.rows, Sp G r) : (rowsE m).length ≤ G.length := by
  have h1 : (rowsE ⟨m.cols, G⟩).length ≤ G.length := by
    have := hG.inv.cnt
    dsimp only at this
    have e : ∀ k : Mx, (rowsE k).length = (outTo (echTo k.rows k.rows.length).1 k.cols.toNat).length := fun k => by unfold rowsE linesE; rw [List.length_map]
    rw [e]
    dsimp only
    omega
  refine Nat.le_trans ?_ h1
  rw [rowsE_count h, rowsE_count hG]
  refine List.countP_mono_left fun c _ hc => ?_
  obtain ⟨r, hr, e⟩ := leadsB_iff.1 hc
  have hE := rowsE_rref hG
  have h2 : Sp (rowsE ⟨m.cols, G⟩) r := ((rowsE_sp2 h r hr).trans hG.ord hs).trans hE.ord (rowsE_sp1 hG)
  obtain ⟨s, hs', e'⟩ := hE.first h2 ((rowsE_rref h).ne r hr)
  exact leadsB_iff.2 ⟨s, hs', by rw [e', e]⟩

theorem memB_colV {R : List (List Int)} {c z : Int} (h : 0 ≤ z ∧ z < R.length) : memB (colV R c) z = memB (nthL R z.toNat) c := by
  rw [Bool.eq_iff_iff, memB_iff]
  unfold colV colTo
  rw [mem_numsTo]
  exact ⟨fun h => h.2.2, fun k => ⟨h.1, h.2, k⟩⟩
theorem colV_inR (R : List (List Int)) (c : Int) : InR R.length (colV R c) := ⟨numsTo_ord _ _, fun z hz => by have := mem_numsTo.1 hz; omega⟩
theorem turned_ok {m : Mx} (h : MOk m) : MOk (turned m) := by
  have h0 := h.c0
  have h1 := h.c1
  have h2 := h.r1
  refine checkM_zero.1 (checkM_ok ⟨by show (0 : Int) ≤ m.rows.length; omega, by show (m.rows.length : Int) ≤ 4096; omega⟩ (by show (turnedRows m.cols.toNat m.rows).length ≤ 4096; rw [turnedRows_length]; omega) (fun r hr => ?_) fun r hr z hz => ?_)
  · obtain ⟨c, _, rfl⟩ := List.mem_map.1 hr
    exact (colV_inR _ _).1
  · obtain ⟨c, _, rfl⟩ := List.mem_map.1 hr
    exact (colV_inR _ _).2 z hz
theorem inR_extB {n : Nat} {a b : List Int} (ha : InR n a) (hb : InR n b) (h : ∀ j, j < n → memB a (j : Int) = memB b (j : Int)) : a = b := by
  refine ord_extB ha.1 hb.1 fun z => ?_
  by_cases hz : 0 ≤ z ∧ z < n
  · have := h z.toNat (by omega)
    rwa [show ((z.toNat : Nat) : Int) = z by omega] at this
  · have h1 : memB a z = false := by
      simp only [memB, decide_eq_false_iff_not]
      exact fun hm => hz (ha.2 z hm)
    have h2 : memB b z = false := by
      simp only [memB, decide_eq_false_iff_not]
      exact fun hm => hz (hb.2 z hm)
    rw [h1, h2]
theorem MOk.row_inR {m : Mx} (h : MOk m) {j : Nat} (hj : j < m.rows.length) : InR m.cols.toNat (nthL m.rows j) := ⟨h.rok.nth_ord j, fun z hz => by have := h.rok.nth_rng j z hz; have := h.cast; omega⟩
theorem turned_turned {m : Mx} (h : MOk m) : turned (turned m) = m := by
  obtain ⟨c, R⟩ := m
  have hc := h.cast
  have hl := turnedRows_length c.toNat R
  dsimp only at hc
  unfold turned
  dsimp only
  rw [hl, Int.toNat_natCast, hc]
  congr 1
  refine List.ext_getElem (by rw [turnedRows_length]) fun i h1 h2 => ?_
  rw [← nthL_eq h1, nthL_turned h2, ← nthL_eq h2]
  have hi := colV_inR (turnedRows c.toNat R) (i : Nat)
  rw [hl] at hi
  refine inR_extB hi (h.row_inR h2) fun j hj => ?_
  rw [memB_colV ⟨by omega, by rw [hl]; omega⟩, Int.toNat_natCast, nthL_turned hj, memB_colV ⟨by omega, by omega⟩, Int.toNat_natCast]

/-- The sum of chosen columns. -/
def colSum (R : List (List Int)) (c : Int) (E : List (List Int)) : List Int := E.foldr (fun r acc => if memB r c = true then xorL (colV R (lead r)) acc else acc) []
theorem colSum_sp {R E : List (List Int)} (c : Int) : ∀ E', (∀ r ∈ E', r ∈ E) → Sp (E.map fun r => colV R (lead r)) (colSum R c E') := by
  intro E'
  induction E' with
  | nil => intro _; exact .nil
  | cons r E' ih =>
    intro h
    have ih := ih fun s hs => h s (by simp [hs])
    show Sp _ (if memB r c = true then xorL (colV R (lead r)) (colSum R c E') else colSum R c E')
    split
    · exact .add (List.mem_map.2 ⟨r, h r (by simp), rfl⟩) ih
    · exact ih
theorem colSum_inR (R : List (List Int)) (c : Int) (E : List (List Int)) : InR R.length (colSum R c E) := by
  induction E with
  | nil => exact .nil _
  | cons r E ih =>
    show InR _ (if memB r c = true then xorL (colV R (lead r)) (colSum R c E) else colSum R c E)
    split
    · exact (colV_inR R _).xor ih
    · exact ih
theorem memB_colSum {R : List (List Int)} {c : Int} {i : Nat} (hi : i < R.length) {E : List (List Int)} (hE : Rows E) : memB (colSum R c E) (i : Int) = memB (comb E fun r => decide (lead r ∈ nthL R i)) c := by
  induction E with
  | nil => rfl
  | cons r E ih =>
    have hE' : Rows E := fun s hs => hE s (by simp [hs])
    have ih := ih hE'
    show memB (if memB r c = true then xorL (colV R (lead r)) (colSum R c E) else colSum R c E) (i : Int) = memB (if decide (lead r ∈ nthL R i) = true then xorL r (comb E fun r => decide (lead r ∈ nthL R i)) else comb E fun r => decide (lead r ∈ nthL R i)) c
    have e1 : memB (colV R (lead r)) (i : Int) = decide (lead r ∈ nthL R i) := by rw [memB_colV ⟨by omega, by omega⟩, Int.toNat_natCast]; rfl
    cases h1 : memB r c <;> cases h2 : decide (lead r ∈ nthL R i)
    · simp only [Bool.false_eq_true, ↓reduceIte]
      exact ih
    · simp only [Bool.false_eq_true, ↓reduceIte]
      rw [memB_xorL (hE r (by simp)) (comb_ord hE' _), h1, ih, Bool.false_xor]
    · simp only [Bool.false_eq_true, ↓reduceIte]
      rw [memB_xorL (colV_inR R _).1 (colSum_inR R c E).1, e1, h2, ih, Bool.false_xor]
    · simp only [↓reduceIte]
      rw [memB_xorL (hE r (by simp)) (comb_ord hE' _), h1, memB_xorL (colV_inR R _).1 (colSum_inR R c E).1, e1, h2, ih]
theorem col_sum {m : Mx} (h : MOk m) (c : Int) : colV m.rows c = colSum m.rows c (rowsE m) := by
  have hE := rowsE_rref h
  refine inR_extB (colV_inR _ _) (colSum_inR _ _ _) fun j hj => ?_
  rw [memB_colV ⟨by omega, by omega⟩, Int.toNat_natCast, memB_colSum hj hE.ord]
  rw [← hE.coord (rowsE_sp1 h _ (nthL_mem hj))]
theorem rank_turned_le {m : Mx} (h : MOk m) : (rowsE (turned m)).length ≤ (rowsE m).length := by
  have hG : MOk ⟨(turned m).cols, (rowsE m).map fun r => colV m.rows (lead r)⟩ := by
    have h2 := h.r1
    refine checkM_zero.1 (checkM_ok ⟨by show (0 : Int) ≤ m.rows.length; omega, by show (m.rows.length : Int) ≤ 4096; omega⟩ ?_ (fun r hr => ?_) fun r hr z hz => ?_)
    · dsimp only
      rw [List.length_map]
      exact h.kok.len
    · obtain ⟨c, _, rfl⟩ := List.mem_map.1 hr
      exact (colV_inR _ _).1
    · obtain ⟨c, _, rfl⟩ := List.mem_map.1 hr
      exact (colV_inR _ _).2 z hz
  have := rank_le (turned_ok h) hG fun r hr => by
    obtain ⟨c, _, rfl⟩ := List.mem_map.1 hr
    show Sp _ (colV m.rows _)
    rw [col_sum h]
    exact colSum_sp _ _ fun r hr => hr
  rwa [List.length_map] at this
theorem rank_turned {m : Mx} (h : MOk m) : (rowsE (turned m)).length = (rowsE m).length := by
  have h1 := rank_turned_le h
  have h2 := rank_turned_le (turned_ok h)
  rw [turned_turned h] at h2
  omega
/-- A column that is chosen by a vector. -/
theorem image_turned {n : Nat} {K : List (List Int)} (hK : ∀ r ∈ K, InR n r) {s : List Int} (hs : InR K.length s) : imageV (turnedRows n K) s = sumRows K s := by
  have hR : Rows K := fun r hr => (hK r hr).1
  have hsn : InR n (sumRows K s) := by
    refine ⟨sumRows_ord hR s, ?_⟩
    refine snoc_ind (P := fun y => ∀ z ∈ sumRows K y, 0 ≤ z ∧ z < (n : Int)) (fun z hz => by simp [sumRows_nil] at hz) (fun y k h z hz => ?_) s
    rw [sumRows_snoc] at hz
    rcases xorL_sub z hz with h1 | h1
    · exact h z h1
    · rcases Nat.lt_or_ge k.toNat K.length with h2 | h2
      · exact (hK _ (nthL_mem h2)).2 z h1
      · rw [show nthL K k.toNat = [] from by simp [nthL, List.getElem?_eq_none h2]] at h1
        simp at h1
  have hl := turnedRows_length n K
  have hi := image_inR (turnedRows n K) s
  rw [hl] at hi
  refine inR_extB hi hsn fun j hj => ?_
  rw [memB_image ⟨by omega, by rw [hl]; omega⟩, Int.toNat_natCast, nthL_turned hj, memB_sumRows hR, oddV_comm (colV_inR _ _).1 hs.1]
  unfold oddV
  exact par_congr fun k hk => memB_colV (hs.2 k hk)

/-! the statement on spans -/
/-- What is left of a row. -/
def leftTo (E : List (List Int)) (row : List Int) : Nat → List Int
  | 0 => row
  | k + 1 => if memB row (lead (nthL E k)) = true then xorL (leftTo E row k) (nthL E k) else leftTo E row k
theorem leftTo_eq {E : List (List Int)} (hE : Rows E) {row : List Int} (hr : Ord row) : ∀ k, k ≤ E.length → leftTo E row k = xorL row (comb (E.take k) fun r => decide (lead r ∈ row)) := by
  have key : ∀ (L : List (List Int)) (r : List Int), Rows L → Ord r → comb (L ++ [r]) (fun r => decide (lead r ∈ row)) = if decide (lead r ∈ row) = true then xorL (comb L fun r => decide (lead r ∈ row)) r else comb L fun r => decide (lead r ∈ row) := by
    intro L r hL hr'
    induction L with
    | nil =>
      show (if decide (lead r ∈ row) = true then xorL r [] else []) = if decide (lead r ∈ row) = true then xorL [] r else []
      rw [xorL_nil_left, xorL_nil_right]
    | cons s L ih =>
      have hL' : Rows L := fun x hx => hL x (by simp [hx])
      have ih := ih hL'
      have hs := hL s (by simp)
      have hc := comb_ord hL' (fun r => decide (lead r ∈ row))
      show (if decide (lead s ∈ row) = true then xorL s (comb (L ++ [r]) _) else comb (L ++ [r]) _) = if decide (lead r ∈ row) = true then xorL (if decide (lead s ∈ row) = true then xorL s (comb L _) else comb L _) r else (if decide (lead s ∈ row) = true then xorL s (comb L _) else comb L _)
      rw [ih]
      cases decide (lead s ∈ row) <;> cases decide (lead r ∈ row)
      · rfl
      · rfl
      · rfl
      · simp only [↓reduceIte]
        rw [xorL_assoc hs hc hr']
  intro k
  induction k with
  | zero => intro _; show row = xorL row (comb [] _); rw [show comb [] (fun r => decide (lead r ∈ row)) = [] from rfl, xorL_nil_right]
  | succ k ih =>
    intro hk
    have ih := ih (by omega)
    have hT : Rows (E.take k) := fun r hr => hE r (List.mem_of_mem_take hr)
    have hn := hE _ (nthL_mem (show k < E.length by omega))
    have e : memB row (lead (nthL E k)) = decide (lead (nthL E k) ∈ row) := rfl
    unfold leftTo
    rw [take_nthL (by omega), key _ _ hT hn, ih, e]
    split
    · rw [xorL_assoc hr (comb_ord hT _) hn]
    · rfl
theorem leftTo_all {m : Mx} (h : MOk m) {row : List Int} (hr : row ∈ m.rows) : leftTo (rowsE m) row (rowsE m).length = [] := by
  have hE := rowsE_rref h
  have ho := h.ord row hr
  rw [leftTo_eq hE.ord ho _ (Nat.le_refl _), List.take_length, ← hE.coord (rowsE_sp1 h row hr), xorL_self ho]
theorem leftTo_length {E : List (List Int)} {n : Nat} (hE : ∀ r ∈ E, InR n r) {row : List Int} (hr : InR n row) : ∀ k, k ≤ E.length → InR n (leftTo E row k) := by
  intro k
  induction k with
  | zero => intro _; exact hr
  | succ k ih =>
    intro hk
    have ih := ih (by omega)
    unfold leftTo
    split
    · exact ih.xor (hE _ (nthL_mem (by omega)))
    · exact ih
theorem InR.length {n : Nat} {l : List Int} (h : InR n l) : l.length ≤ n := by
  have key : ∀ (m : Nat) (l : List Int), Ord l → (∀ x ∈ l, (m : Int) ≤ x ∧ x < n) → l.length + m ≤ n ∨ l = [] := by
    intro m l
    induction l generalizing m with
    | nil => intro _ _; exact .inr rfl
    | cons x l ih =>
      intro ho hx
      left
      have h1 := hx x (by simp)
      have h2 := List.pairwise_cons.1 ho
      rcases ih (x.toNat + 1) h2.2 (fun z hz => by have := h2.1 z hz; have := hx z (by simp [hz]); omega) with h3 | h3
      · simp only [List.length_cons]; omega
      · subst h3; simp only [List.length_cons, List.length_nil]; omega
  rcases key 0 l h.1 (fun x hx => by have := h.2 x hx; omega) with h1 | h1
  · omega
  · subst h1; simp
theorem rowsE_inR {m : Mx} (h : MOk m) : ∀ r ∈ rowsE m, InR m.cols.toNat r := fun r hr => ⟨(rowsE_rref h).ord r hr, fun z hz => by have := h.kok.rok.rng r hr z hz; have := h.cast; omega⟩
theorem rowsE_ok {m : Mx} (h : MOk m) : MOk ⟨m.cols, rowsE m⟩ := by
  have hc := h.cast
  refine checkM_zero.1 (checkM_ok ⟨h.c0, h.c1⟩ h.kok.len (fun r hr => (rowsE_inR h r hr).1) fun r hr z hz => ?_)
  have := (rowsE_inR h r hr).2 z hz
  dsimp only
  omega
theorem rowsE_again {m : Mx} (h : MOk m) : rowsE ⟨m.cols, rowsE m⟩ = rowsE m :=
  (rowsE_unique (rowsE_ok h) (rowsE_rref h) (fun r hr => Sp.mem hr) fun r hr => Sp.mem hr).symm
theorem more_ok {m : Mx} (h : MOk m) {y : List Int} (hy : InR m.rows.length y) (hl : m.rows.length ≤ 4000) : MOk ⟨m.cols, m.rows ++ [sumRows m.rows y]⟩ := by
  refine checkM_zero.1 (checkM_ok ⟨h.c0, h.c1⟩ (by dsimp only; rw [List.length_append]; simp; omega) (fun r hr => ?_) fun r hr z hz => ?_)
  · rcases List.mem_append.1 hr with h1 | h1
    · exact h.ord r h1
    · rw [List.mem_singleton.1 h1]; exact sumRows_ord h.ord y
  · rcases List.mem_append.1 hr with h1 | h1
    · exact h.rok.rng r h1 z hz
    · rw [List.mem_singleton.1 h1] at hz; exact sumRows_rng h.rok y z hz
theorem rowsE_more {m : Mx} (h : MOk m) {y : List Int} (hy : InR m.rows.length y) (hl : m.rows.length ≤ 4000) : rowsE ⟨m.cols, m.rows ++ [sumRows m.rows y]⟩ = rowsE m := by
  refine (rowsE_unique (more_ok h hy hl) (rowsE_rref h) (fun r hr => ?_) fun r hr => (rowsE_sp2 h r hr).mono fun s hs => List.mem_append.2 (.inl hs)).symm
  rcases List.mem_append.1 hr with h1 | h1
  · exact rowsE_sp1 h r h1
  · rw [List.mem_singleton.1 h1]
    exact (sumRows_sp h.ord y).trans (rowsE_rref h).ord (rowsE_sp1 h)
end Go.Proofs.Ytijmjliijjkcbaa
